/- The proof that FarkasDual holds for every input, without conditions: part 6 of 6. -/
import Derived.Test.YtdhmbgogmoaofaaGreatZ5
import Derived.ProofKit
import Derived.OpenShut
import Derived.ShutString
import Derived.ChangeOld
import Derived.Below
import Derived.DataElems
import Derived.Test.YtdhmbgogmoaofaaGreatRows
namespace Go.Proofs.YtdhmbgogmoaofaaGreat
open Go.Own Go.Limbs
attribute [local irreducible] St Ops Go.Own.Fin Ok
theorem Tb.len {m : Int} (h : Tb m) : (limbs (tf m).num).length ≤ 1000 := Nat.le_trans h.sz (by decide)
theorem tf_lend (m : Int) : (limbs (tf m).den).length ≤ 1000 := Nat.le_trans (tf_szd m) (by decide)
set_option maxHeartbeats 2000000 in
theorem rFloor_ok (f : Fr) (h1 : f.num < 4611686018427387904) (h2 : 0 < f.den) (h3 : (limbs f.den).length ≤ 1000) : Ok Tryz.prog 43 [fracC f] (.fr (tupT [intC (sg f.neg f.num / (f.den : Int)), intC 0])) := by
  have ln : (limbs f.num).length ≤ 3 := limbs_length_le (k := 3) (by omega)
  have hle := Nat.div_le_self f.num f.den
  have lq : (limbs (f.num / f.den)).length ≤ 3 := limbs_length_le (k := 3) (by omega)
  have e0 := floor_sg f.neg f.num f.den h2
  have e11 : natC 1 = .fr (sliceT 1 [[intC 1]]) := by show intsC (limbs 1) = _; rw [limbs_one (by decide) (by decide)]; rfl
  have l1 : (limbs 1).length = 1 := by rw [limbs_one (by decide) (by decide)]; rfl
  refine Ok.enter Tryz.func43 rfl _ Tryz.ntmps43 rfl ?_
  intro S w
  (refine St.seq ?_; refine St.regionK (fun K hK => ?_); refine Ops.boxN 0 rfl rfl rfl rfl rfl rfl rfl ?_; refine Ops.assign rfl rfl rfl ?_; refine Ops.assign rfl rfl rfl ?_; refine Ops.nil (hK _ _ ?_); clear hK K; refine Fin.then ?_; refine St.seq ?_; refine St.regionK (fun K hK => ?_); refine Ops.fldO rfl rfl rfl (by with_reducible first | exact fF0 | exact fF1 | exact fF2 | exact fR0 | exact fR1) rfl ?_; refine Ops.ld1A rfl rfl rfl rfl rfl (by with_reducible first | exact lInt | exact lNat | exact lBool | exact lInts) rfl ?_; refine Ops.fldO rfl rfl rfl (by with_reducible first | exact fF0 | exact fF1 | exact fF2 | exact fR0 | exact fR1) rfl ?_; refine Ops.ld1A rfl rfl rfl rfl rfl (by with_reducible first | exact lInt | exact lNat | exact lBool | exact lInts) rfl ?_)
  refine Ops.call gorSplit (rSplit_ok f.num f.den h2 (by omega) (by omega)) rfl rfl rfl rfl ?_
  (refine Ops.move rfl rfl rfl ?_; refine Ops.extract rfl rfl rfl rfl ?_; refine Ops.extract rfl rfl rfl rfl ?_; refine Ops.assign rfl rfl rfl ?_; refine Ops.assign rfl rfl rfl ?_; refine Ops.nil (hK _ _ ?_); clear hK K; refine Fin.then ?_; refine St.seq ?_; refine St.seq ?_; refine St.regionK (fun K hK => ?_); refine Ops.fldO rfl rfl rfl (by with_reducible first | exact fF0 | exact fF1 | exact fF2 | exact fR0 | exact fR1) rfl ?_; refine Ops.ld1A rfl rfl rfl rfl rfl (by with_reducible first | exact lInt | exact lNat | exact lBool | exact lInts) rfl ?_; refine Ops.move rfl rfl rfl ?_)
  refine Ops.split 18 rfl (fun g => ?_) (fun g => ?_)
  · rw [g] at e0
    (refine Ops.move rfl rfl rfl ?_; refine Ops.lenF rfl rfl (by with_reducible first | exact sNat.und | exact sInts.und) (List.length_map ..) rfl ?_; refine Ops.ibin igtr rfl rfl rfl rfl ?_; refine Ops.pickT rfl rfl rfl rfl ?_; refine Ops.nil (hK _ _ ?_); clear hK K; refine Fin.then ?_)
    refine St.condP rfl (fun h => ?_) (fun h => ?_)
    · have hr : f.num % f.den ≠ 0 := limbs_len_pos.mp (by omega)
      have er : rnd f.num f.den true = f.num / f.den + 1 := by unfold rnd; rw [if_pos ⟨rfl, hr⟩]
      (refine St.regionK (fun K hK => ?_); refine Ops.move rfl rfl rfl ?_)
      refine Ops.lit1 rfl rfl (by with_reducible exact sNat) rfl rfl rfl ?_
      rw [← e11]
      refine Ops.call gorPlus (rPlus_ok (f.num / f.den) 1 (by omega) (by omega)) rfl rfl rfl rfl ?_
      (refine Ops.assign rfl rfl rfl ?_; refine Ops.nil (hK _ _ ?_); clear hK K; refine Fin.then ?_; refine St.seq ?_; refine St.regionK (fun K hK => ?_); refine Ops.move rfl rfl rfl ?_)
      refine Ops.call gorInt (rInt_ok (f.num / f.den + 1) (by omega)) rfl rfl rfl rfl ?_
      (refine Ops.move rfl rfl rfl ?_; refine Ops.extract rfl rfl rfl rfl ?_; refine Ops.extract rfl rfl rfl rfl ?_; refine Ops.assign rfl rfl rfl ?_; refine Ops.assign rfl rfl rfl ?_; refine Ops.nil (hK _ _ ?_); clear hK K; refine Fin.then ?_; refine St.seq ?_; refine St.seq ?_; refine St.regionK (fun K hK => ?_); refine Ops.move rfl rfl rfl ?_; refine Ops.ibin ineq rfl rfl rfl rfl ?_; refine Ops.nil (hK _ _ ?_); clear hK K; refine Fin.then ?_; refine St.condF rfl ?_; refine St.skip ?_; refine Fin.then ?_; refine St.seq ?_; refine St.seq ?_; refine St.regionK (fun K hK => ?_); refine Ops.fldO rfl rfl rfl (by with_reducible first | exact fF0 | exact fF1 | exact fF2 | exact fR0 | exact fR1) rfl ?_; refine Ops.ld1A rfl rfl rfl rfl rfl (by with_reducible first | exact lInt | exact lNat | exact lBool | exact lInts) rfl ?_; refine Ops.nil (hK _ _ ?_); clear hK K; refine Fin.then ?_)
      refine St.condB rfl (fun g2 => ?_) (fun g2 => ?_)
      · (refine St.regionK (fun K hK => ?_); refine Ops.move rfl rfl rfl ?_)
        refine Ops.ineg rfl rfl (by omega) (by omega) rfl ?_
        (refine Ops.assign rfl rfl rfl ?_; refine Ops.nil (hK _ _ ?_); clear hK K; refine Fin.then ?_; refine St.seq ?_; refine St.regionK (fun K hK => ?_); refine Ops.move rfl rfl rfl ?_; refine Ops.assign rfl rfl rfl ?_; refine Ops.assign rfl rfl rfl ?_; refine Ops.nil (hK _ _ ?_); clear hK K; refine Fin.then ?_; refine St.ret ?_)
        refine Fin.ret [_, _] rfl (AllRes.tmp rfl (AllRes.tmp rfl AllRes.nil)) (by rw [g, ← e0, er]; rfl) rfl
      · rw [g] at g2; cases g2
    · have hr : ¬ (f.num % f.den ≠ 0) := fun h' => h (by have := limbs_len_pos.mpr h'; omega)
      have er : rnd f.num f.den true = f.num / f.den := by unfold rnd; rw [if_neg (fun h' => hr h'.2)]
      (refine St.skip ?_; refine Fin.then ?_; refine St.seq ?_; refine St.regionK (fun K hK => ?_); refine Ops.move rfl rfl rfl ?_)
      refine Ops.call gorInt (rInt_ok (f.num / f.den) (by omega)) rfl rfl rfl rfl ?_
      (refine Ops.move rfl rfl rfl ?_; refine Ops.extract rfl rfl rfl rfl ?_; refine Ops.extract rfl rfl rfl rfl ?_; refine Ops.assign rfl rfl rfl ?_; refine Ops.assign rfl rfl rfl ?_; refine Ops.nil (hK _ _ ?_); clear hK K; refine Fin.then ?_; refine St.seq ?_; refine St.seq ?_; refine St.regionK (fun K hK => ?_); refine Ops.move rfl rfl rfl ?_; refine Ops.ibin ineq rfl rfl rfl rfl ?_; refine Ops.nil (hK _ _ ?_); clear hK K; refine Fin.then ?_; refine St.condF rfl ?_; refine St.skip ?_; refine Fin.then ?_; refine St.seq ?_; refine St.seq ?_; refine St.regionK (fun K hK => ?_); refine Ops.fldO rfl rfl rfl (by with_reducible first | exact fF0 | exact fF1 | exact fF2 | exact fR0 | exact fR1) rfl ?_; refine Ops.ld1A rfl rfl rfl rfl rfl (by with_reducible first | exact lInt | exact lNat | exact lBool | exact lInts) rfl ?_; refine Ops.nil (hK _ _ ?_); clear hK K; refine Fin.then ?_)
      refine St.condB rfl (fun g2 => ?_) (fun g2 => ?_)
      · (refine St.regionK (fun K hK => ?_); refine Ops.move rfl rfl rfl ?_)
        refine Ops.ineg rfl rfl (by omega) (by omega) rfl ?_
        (refine Ops.assign rfl rfl rfl ?_; refine Ops.nil (hK _ _ ?_); clear hK K; refine Fin.then ?_; refine St.seq ?_; refine St.regionK (fun K hK => ?_); refine Ops.move rfl rfl rfl ?_; refine Ops.assign rfl rfl rfl ?_; refine Ops.assign rfl rfl rfl ?_; refine Ops.nil (hK _ _ ?_); clear hK K; refine Fin.then ?_; refine St.ret ?_)
        refine Fin.ret [_, _] rfl (AllRes.tmp rfl (AllRes.tmp rfl AllRes.nil)) (by rw [g, ← e0, er]; rfl) rfl
      · rw [g] at g2; cases g2
  · rw [g] at e0
    have er : rnd f.num f.den false = f.num / f.den := by unfold rnd; rw [if_neg (fun h' => by cases h'.1)]
    (refine Ops.skip rfl rfl rfl ?_; refine Ops.skip rfl rfl rfl ?_; refine Ops.skip rfl rfl rfl ?_; refine Ops.pickF rfl rfl rfl rfl ?_; refine Ops.nil (hK _ _ ?_); clear hK K; refine Fin.then ?_; refine St.condF rfl ?_; refine St.skip ?_; refine Fin.then ?_; refine St.seq ?_; refine St.regionK (fun K hK => ?_); refine Ops.move rfl rfl rfl ?_)
    refine Ops.call gorInt (rInt_ok (f.num / f.den) (by omega)) rfl rfl rfl rfl ?_
    (refine Ops.move rfl rfl rfl ?_; refine Ops.extract rfl rfl rfl rfl ?_; refine Ops.extract rfl rfl rfl rfl ?_; refine Ops.assign rfl rfl rfl ?_; refine Ops.assign rfl rfl rfl ?_; refine Ops.nil (hK _ _ ?_); clear hK K; refine Fin.then ?_; refine St.seq ?_; refine St.seq ?_; refine St.regionK (fun K hK => ?_); refine Ops.move rfl rfl rfl ?_; refine Ops.ibin ineq rfl rfl rfl rfl ?_; refine Ops.nil (hK _ _ ?_); clear hK K; refine Fin.then ?_; refine St.condF rfl ?_; refine St.skip ?_; refine Fin.then ?_; refine St.seq ?_; refine St.seq ?_; refine St.regionK (fun K hK => ?_); refine Ops.fldO rfl rfl rfl (by with_reducible first | exact fF0 | exact fF1 | exact fF2 | exact fR0 | exact fR1) rfl ?_; refine Ops.ld1A rfl rfl rfl rfl rfl (by with_reducible first | exact lInt | exact lNat | exact lBool | exact lInts) rfl ?_; refine Ops.nil (hK _ _ ?_); clear hK K; refine Fin.then ?_)
    refine St.condB rfl (fun g2 => ?_) (fun g2 => ?_)
    · rw [g] at g2; cases g2
    · (refine St.skip ?_; refine Fin.then ?_; refine St.seq ?_; refine St.regionK (fun K hK => ?_); refine Ops.move rfl rfl rfl ?_; refine Ops.assign rfl rfl rfl ?_; refine Ops.assign rfl rfl rfl ?_; refine Ops.nil (hK _ _ ?_); clear hK K; refine Fin.then ?_; refine St.ret ?_)
      refine Fin.ret [_, _] rfl (AllRes.tmp rfl (AllRes.tmp rfl AllRes.nil)) (by rw [g, ← e0, er]; rfl) rfl
theorem gorFloor : InGo Tryz.prog 43 := InGo.of Tryz.func43 (by kernel_rfl) (by kernel_rfl)
theorem rFloor_tw (m : Int) (hm : m.natAbs < 4611686018427387904) : Ok Tryz.prog 43 [twC m] (.fr (tupT [intC (m / 12), intC 0])) := by
  have h := rFloor_ok (tf m) (Nat.lt_of_le_of_lt (tf_num_le m) hm) (tf_den m).1 (tf_lend m)
  have e : sg (tf m).neg (tf m).num / ((tf m).den : Int) = m / 12 := by
    obtain ⟨g, hg, ea, ed⟩ := tf_sg m
    have ed1 : (12 : Int) = (tf m).den * g := by exact_mod_cast ed
    conv => rhs; rw [ea, ed1]
    rw [Int.mul_ediv_mul_of_pos_left _ _ (by omega)]
  rw [e] at h; exact h
end Go.Proofs.YtdhmbgogmoaofaaGreat
namespace Go.Proofs.YtdhmbgogmoaofaaGreat
open Go.Own Go.Limbs
attribute [local irreducible] St Ops Go.Own.Fin Ok OkB OkN wpA
theorem gowhole : InGo Tryz.prog 46 := InGo.of Tryz.func46 rfl (by decide)
set_option maxHeartbeats 2000000 in
theorem lwhole_ok (n : Int) (h1 : -9223372036854775808 ≤ n) (h2 : n ≤ 9223372036854775807) : Ok Tryz.prog 46 [intC n] (twC (12 * n)) := by
  have hF := rFrom_ok n 1 h1 h2 (by decide) (by decide) (by decide)
  rw [tw_one] at hF
  have hF : Ok Tryz.prog 57 [intC n, intC 1] (.fr (tupT [twC (12 * n), intC 0])) := hF
  refine Ok.enter Tryz.func46 rfl _ Tryz.ntmps46 rfl ?_
  intro S w
  (refine St.seq ?_; refine St.regionK (fun K hK => ?_); refine Ops.alloc 0 rfl rfl (by with_reducible first | exact zvFrac) rfl rfl rfl ?_; refine Ops.nil (hK _ _ ?_); clear hK K; refine Fin.then ?_; refine St.seq ?_; refine St.regionK (fun K hK => ?_); refine Ops.move rfl rfl rfl ?_)
  refine Ops.call gorFrom hF rfl rfl rfl rfl ?_
  (refine Ops.move rfl rfl rfl ?_; refine Ops.extract rfl rfl rfl rfl ?_; refine Ops.extract rfl rfl rfl rfl ?_; refine Ops.alloc 1 rfl rfl (by with_reducible first | exact zvFrac) rfl rfl rfl ?_; refine Ops.stWN 3 rfl rfl rfl rfl rfl (by with_reducible exact szFrac) rfl rfl ?_; refine Ops.assign rfl rfl rfl ?_; refine Ops.nil (hK _ _ ?_); clear hK K; refine Fin.then ?_; refine St.seq ?_; refine St.regionK (fun K hK => ?_); refine Ops.ldNO (n := 3) rfl rfl rfl rfl rfl (by with_reducible exact lFrac) rfl ?_; refine Ops.stWN 3 rfl rfl rfl rfl rfl (by with_reducible exact szFrac) rfl rfl ?_; refine Ops.nil (hK _ _ ?_); clear hK K; refine Fin.then ?_; refine St.ret ?_)
  refine Fin.ret [_] rfl (AllRes.cellN (n := 3) rfl rfl (by with_reducible exact lFrac) rfl AllRes.nil) rfl rfl
theorem goEqual : InGo Tryz.prog 19 := InGo.of Tryz.func19 rfl (by decide)
set_option maxHeartbeats 4000000 in
theorem Equal_refl (f : Fr) (hn : (limbs f.num).length ≤ 1000) (hd : (limbs f.den).length ≤ 1000) : Ok Tryz.prog 19 [fracC f, fracC f] (boolC true) := by
  refine Ok.enter Tryz.func19 rfl _ Tryz.ntmps19 rfl ?_
  intro S w
  (refine St.seq ?_; refine St.regionK (fun K hK => ?_); refine Ops.boxN 0 rfl rfl rfl rfl rfl rfl rfl ?_; refine Ops.boxN 1 rfl rfl rfl rfl rfl rfl rfl ?_; refine Ops.assign rfl rfl rfl ?_; refine Ops.nil (hK _ _ ?_); clear hK K; refine Fin.then ?_; refine St.seq ?_; refine St.seq ?_; refine St.regionK (fun K hK => ?_); refine Ops.fldO rfl rfl rfl (by with_reducible first | exact fF0 | exact fF1 | exact fF2 | exact fR0 | exact fR1) rfl ?_; refine Ops.ld1A rfl rfl rfl rfl rfl (by with_reducible first | exact lInt | exact lNat | exact lBool | exact lInts) rfl ?_; refine Ops.fldO rfl rfl rfl (by with_reducible first | exact fF0 | exact fF1 | exact fF2 | exact fR0 | exact fR1) rfl ?_; refine Ops.ld1A rfl rfl rfl rfl rfl (by with_reducible first | exact lInt | exact lNat | exact lBool | exact lInts) rfl ?_)
  refine Ops.bne rfl rfl rfl (by with_reducible exact uBool) rfl ?_
  (refine Ops.move rfl rfl rfl ?_)
  refine Ops.splitP 12 rfl (fun h => absurd rfl h) (fun _ => ?_)
  (refine Ops.fldO rfl rfl rfl (by with_reducible first | exact fF0 | exact fF1 | exact fF2 | exact fR0 | exact fR1) rfl ?_; refine Ops.ld1A rfl rfl rfl rfl rfl (by with_reducible first | exact lInt | exact lNat | exact lBool | exact lInts) rfl ?_; refine Ops.lenF rfl rfl (by with_reducible first | exact sNat.und | exact sInts.und) (List.length_map ..) rfl ?_; refine Ops.fldO rfl rfl rfl (by with_reducible first | exact fF0 | exact fF1 | exact fF2 | exact fR0 | exact fR1) rfl ?_; refine Ops.ld1A rfl rfl rfl rfl rfl (by with_reducible first | exact lInt | exact lNat | exact lBool | exact lInts) rfl ?_; refine Ops.lenF rfl rfl (by with_reducible first | exact sNat.und | exact sInts.und) (List.length_map ..) rfl ?_; refine Ops.ibin ineq rfl rfl rfl rfl ?_; refine Ops.pickF rfl rfl rfl rfl ?_; refine Ops.move rfl rfl rfl ?_)
  refine Ops.splitP 21 rfl (fun h => absurd rfl h) (fun _ => ?_)
  (refine Ops.fldO rfl rfl rfl (by with_reducible first | exact fF0 | exact fF1 | exact fF2 | exact fR0 | exact fR1) rfl ?_; refine Ops.ld1A rfl rfl rfl rfl rfl (by with_reducible first | exact lInt | exact lNat | exact lBool | exact lInts) rfl ?_; refine Ops.lenF rfl rfl (by with_reducible first | exact sNat.und | exact sInts.und) (List.length_map ..) rfl ?_; refine Ops.fldO rfl rfl rfl (by with_reducible first | exact fF0 | exact fF1 | exact fF2 | exact fR0 | exact fR1) rfl ?_; refine Ops.ld1A rfl rfl rfl rfl rfl (by with_reducible first | exact lInt | exact lNat | exact lBool | exact lInts) rfl ?_; refine Ops.lenF rfl rfl (by with_reducible first | exact sNat.und | exact sInts.und) (List.length_map ..) rfl ?_; refine Ops.ibin ineq rfl rfl rfl rfl ?_; refine Ops.pickF rfl rfl rfl rfl ?_; refine Ops.nil (hK _ _ ?_); clear hK K; refine Fin.then ?_)
  refine St.condP rfl (fun h => absurd rfl h) (fun _ => ?_)
  (refine St.skip ?_; refine Fin.then ?_; refine St.seq ?_; refine St.seq ?_; refine St.regionK (fun K hK => ?_); refine Ops.assign rfl rfl rfl ?_; refine Ops.nil (hK _ _ ?_); clear hK K; refine Fin.then ?_; refine St.block ?_)
  refine St.loop (α := Nat) (fun k => k ≤ (limbs f.num).length)
    (fun k => [(2, .own 0), (3, .own 1), (5, .ct (intC k))]) (fun _ => [(1, .box 38 (frCs f)), (0, .box 38 (frCs f))]) (fun k => (limbs f.num).length - k) 0 (Nat.zero_le _) (by exact Entails.of rfl ⟨rfl, rfl, rfl, trivial⟩) ?_
  intro k hk
  dsimp only at hk ⊢
  (refine St.seq ?_; refine St.seq ?_; refine St.regionK (fun K hK => ?_); refine Ops.move rfl rfl rfl ?_; refine Ops.fldO rfl rfl rfl (by with_reducible first | exact fF0 | exact fF1 | exact fF2 | exact fR0 | exact fR1) rfl ?_; refine Ops.ld1A rfl rfl rfl rfl rfl (by with_reducible first | exact lInt | exact lNat | exact lBool | exact lInts) rfl ?_; refine Ops.lenF rfl rfl (by with_reducible first | exact sNat.und | exact sInts.und) (List.length_map ..) rfl ?_; refine Ops.ibin ilss rfl rfl rfl rfl ?_; refine Ops.nil (hK _ _ ?_); clear hK K; refine Fin.then ?_)
  refine St.condP rfl (fun h => ?_) (fun h => ?_)
  · (refine St.skip ?_; refine Fin.then ?_; refine St.seq ?_; refine St.block ?_; refine St.seq ?_)
    refine St.drawK (by with_reducible exact mixed) 11 (.p 0 (.p 2 (.p 5 (.p 7 (.f 1 (.p 3 (.f 4 (.f 6 (.p 8 (.f 9 (.p 10 .done))))))))))) (by kernel_rfl) (fun K hK => ?_)
    (refine Ops.fldO rfl rfl rfl (by with_reducible first | exact fF0 | exact fF1 | exact fF2 | exact fR0 | exact fR1) rfl ?_; refine Ops.move rfl rfl rfl ?_; refine Ops.fldO rfl rfl rfl (by with_reducible first | exact fF0 | exact fF1 | exact fF2 | exact fR0 | exact fR1) rfl ?_; refine Ops.move rfl rfl rfl ?_; refine Ops.ld1A rfl rfl rfl rfl rfl (by with_reducible first | exact lInt | exact lNat | exact lBool | exact lInts) rfl ?_; refine Ops.idxF rfl rfl rfl (by with_reducible first | exact sNat | exact sInts) (by omega) (ints_at (by omega) (by omega)) rfl ?_; refine Ops.ld1F rfl rfl rfl (by with_reducible first | exact lInt | exact lNat | exact lBool | exact lInts) rfl ?_; refine Ops.ld1A rfl rfl rfl rfl rfl (by with_reducible first | exact lInt | exact lNat | exact lBool | exact lInts) rfl ?_; refine Ops.idxF rfl rfl rfl (by with_reducible first | exact sNat | exact sInts) (by omega) (ints_at (by omega) (by omega)) rfl ?_; refine Ops.ld1F rfl rfl rfl (by with_reducible first | exact lInt | exact lNat | exact lBool | exact lInts) rfl ?_; refine Ops.ibin ineq rfl rfl rfl rfl ?_; refine Ops.nil (hK _ _ ?_); clear hK K; refine Fin.then ?_)
    refine St.condP rfl (fun h => absurd rfl h) (fun _ => ?_)
    (refine St.skip ?_; refine Fin.then ?_; refine St.regionK (fun K hK => ?_); refine Ops.move rfl rfl rfl ?_; refine Ops.ibin (iadd (by omega) (by omega)) rfl rfl rfl rfl ?_; refine Ops.assign rfl rfl rfl ?_; refine Ops.nil (hK _ _ ?_); clear hK K; refine Fin.thenN ?_)
    refine Fin.next (k + 1) (by omega) (by omega) (by exact Entails.of rfl ⟨rfl, rfl, by simp only [Int.natCast_add]; rfl, trivial⟩)
  · (refine St.exit ?_; refine Fin.then ?_; refine St.seq ?_; refine St.seq ?_; refine St.regionK (fun K hK => ?_); refine Ops.assign rfl rfl rfl ?_; refine Ops.nil (hK _ _ ?_); clear hK K; refine Fin.then ?_; refine St.block ?_)
    refine St.loop (α := Nat) (fun k => k ≤ (limbs f.den).length)
      (fun k => [(2, .own 0), (3, .own 1), (6, .ct (intC k))]) (fun _ => [(1, .box 38 (frCs f)), (0, .box 38 (frCs f))]) (fun k => (limbs f.den).length - k) 0 (Nat.zero_le _) (by exact Entails.of rfl ⟨rfl, rfl, rfl, trivial⟩) ?_
    intro k hk
    dsimp only at hk ⊢
    (refine St.seq ?_; refine St.seq ?_; refine St.regionK (fun K hK => ?_); refine Ops.move rfl rfl rfl ?_; refine Ops.fldO rfl rfl rfl (by with_reducible first | exact fF0 | exact fF1 | exact fF2 | exact fR0 | exact fR1) rfl ?_; refine Ops.ld1A rfl rfl rfl rfl rfl (by with_reducible first | exact lInt | exact lNat | exact lBool | exact lInts) rfl ?_; refine Ops.lenF rfl rfl (by with_reducible first | exact sNat.und | exact sInts.und) (List.length_map ..) rfl ?_; refine Ops.ibin ilss rfl rfl rfl rfl ?_; refine Ops.nil (hK _ _ ?_); clear hK K; refine Fin.then ?_)
    refine St.condP rfl (fun h => ?_) (fun h => ?_)
    · (refine St.skip ?_; refine Fin.then ?_; refine St.seq ?_; refine St.block ?_; refine St.seq ?_)
      refine St.drawK (by with_reducible exact mixed) 11 (.p 0 (.p 2 (.p 5 (.p 7 (.f 1 (.p 3 (.f 4 (.f 6 (.p 8 (.f 9 (.p 10 .done))))))))))) (by kernel_rfl) (fun K hK => ?_)
      (refine Ops.fldO rfl rfl rfl (by with_reducible first | exact fF0 | exact fF1 | exact fF2 | exact fR0 | exact fR1) rfl ?_; refine Ops.move rfl rfl rfl ?_; refine Ops.fldO rfl rfl rfl (by with_reducible first | exact fF0 | exact fF1 | exact fF2 | exact fR0 | exact fR1) rfl ?_; refine Ops.move rfl rfl rfl ?_; refine Ops.ld1A rfl rfl rfl rfl rfl (by with_reducible first | exact lInt | exact lNat | exact lBool | exact lInts) rfl ?_; refine Ops.idxF rfl rfl rfl (by with_reducible first | exact sNat | exact sInts) (by omega) (ints_at (by omega) (by omega)) rfl ?_; refine Ops.ld1F rfl rfl rfl (by with_reducible first | exact lInt | exact lNat | exact lBool | exact lInts) rfl ?_; refine Ops.ld1A rfl rfl rfl rfl rfl (by with_reducible first | exact lInt | exact lNat | exact lBool | exact lInts) rfl ?_; refine Ops.idxF rfl rfl rfl (by with_reducible first | exact sNat | exact sInts) (by omega) (ints_at (by omega) (by omega)) rfl ?_; refine Ops.ld1F rfl rfl rfl (by with_reducible first | exact lInt | exact lNat | exact lBool | exact lInts) rfl ?_; refine Ops.ibin ineq rfl rfl rfl rfl ?_; refine Ops.nil (hK _ _ ?_); clear hK K; refine Fin.then ?_)
      refine St.condP rfl (fun h => absurd rfl h) (fun _ => ?_)
      (refine St.skip ?_; refine Fin.then ?_; refine St.regionK (fun K hK => ?_); refine Ops.move rfl rfl rfl ?_; refine Ops.ibin (iadd (by omega) (by omega)) rfl rfl rfl rfl ?_; refine Ops.assign rfl rfl rfl ?_; refine Ops.nil (hK _ _ ?_); clear hK K; refine Fin.thenN ?_)
      refine Fin.next (k + 1) (by omega) (by omega) (by exact Entails.of rfl ⟨rfl, rfl, by simp only [Int.natCast_add]; rfl, trivial⟩)
    · (refine St.exit ?_; refine Fin.then ?_; refine St.seq ?_; refine St.regionK (fun K hK => ?_); refine Ops.assign rfl rfl rfl ?_; refine Ops.nil (hK _ _ ?_); clear hK K; refine Fin.then ?_; refine St.ret ?_)
      refine Fin.ret [_] rfl (AllRes.tmp rfl AllRes.nil) rfl rfl
end Go.Proofs.YtdhmbgogmoaofaaGreat
namespace Go.Proofs.YtdhmbgogmoaofaaGreat
open Go.Own
attribute [local irreducible] St Ops Go.Own.Fin Ok OkB OkN
theorem sBytes : SlcT Tryz.prog 22 5 1 1 (.int .u8 0) := SlcT.of Tryz.underlying22 (by kernel_rfl) rfl (by decide)
theorem lBytes : Ld1 Tryz.prog 22 := Ld1.of _ Tryz.underlying22 rfl
theorem lU8 : Ld1 Tryz.prog 5 := Ld1.of _ Tryz.underlying5 rfl
theorem uU8 : Tryz.prog.underlying 5 = some (.int .u8) := Tryz.underlying5
theorem uInt : Tryz.prog.underlying 3 = some (.int .i64) := Tryz.underlying3
theorem fC0 : fldInfo Tryz.prog 82 0 = some (0, some 1) := by kernel_rfl
theorem fC1 : fldInfo Tryz.prog 82 1 = some (1, some 1) := by kernel_rfl
theorem bCodes : bInfo Tryz.prog 82 = some (.agg #[.slice none 0 0, .int .i64 0], [(0, some 1), (1, some 1)]) := by kernel_rfl
abbrev bytesC (bs : List Int) : CT := .fr (sliceT 1 (bs.map fun b => [CT.ex (.int .u8 b)]))
abbrev codes (bs : List Int) (p : Nat) : List CT := [bytesC bs, intC p]
structure Bytes (bs : List Int) : Prop where
  lo : ∀ b ∈ bs, 0 ≤ b
  hi : ∀ b ∈ bs, b < 256
  len : bs.length ≤ 400
theorem bytes_at {bs : List Int} {j : Int} (h0 : 0 ≤ j) (h : j < (bs.length : Int)) : (bs.map fun b => [CT.ex (.int .u8 b)])[j.toNat]? = some [CT.ex (.int .u8 (bs.getD j.toNat 0))] := by
  have hl : j.toNat < bs.length := by omega
  rw [List.getElem?_map, List.getElem?_eq_getElem hl, List.getD_eq_getElem?_getD, List.getElem?_eq_getElem hl]; rfl
theorem Bytes.at {bs : List Int} (h : Bytes bs) (j : Nat) : 0 ≤ bs.getD j 0 ∧ bs.getD j 0 < 256 := by
  rw [List.getD_eq_getElem?_getD]
  cases e : bs[j]? with
  | none => simp
  | some b =>
    have := List.mem_of_getElem? e
    exact ⟨h.lo b this, h.hi b this⟩
theorem goNext : InGo Tryz.prog 16 := InGo.of Tryz.func16 rfl (by decide)
set_option maxHeartbeats 2000000 in
theorem Next_ok (bs : List Int) (p : Nat) (n : Int) (h1 : 1 ≤ n) (h2 : n ≤ 256) (hb : Bytes bs) :
    OkB Tryz.prog 16 82 (codes bs p) [intC n] (fun q : Int × Nat => 0 ≤ q.1 ∧ q.1 < n) (fun q => intC q.1) (fun q => codes bs q.2) := by
  have hlen := hb.len
  refine OkB.enter Tryz.func16 rfl _ Tryz.ntmps16 rfl ?_
  intro S w g
  (refine St.seq ?_; refine St.regionK (fun K hK => ?_); refine Ops.assign rfl rfl rfl ?_; refine Ops.nil (hK _ _ ?_); clear hK K; refine Fin.then ?_; refine St.seq ?_; refine St.seq ?_)
  refine St.drawK (by with_reducible exact mixed) 14 (.p 0 (.p 1 (.p 2 (.p 4 (.p 5 (.p 6 (.f 3 (.f 7 (.p 8 (.p 9 (.p 10 (.p 11 (.p 12 (.p 13 .done)))))))))))))) (by kernel_rfl) (fun K hK => ?_)
  (refine Ops.move rfl rfl rfl ?_; refine Ops.nilCheckO rfl rfl rfl rfl ?_; refine Ops.fldO rfl rfl rfl (by with_reducible first | exact fC0 | exact fC1 | exact fR0 | exact fR1) rfl ?_; refine Ops.move rfl rfl rfl ?_; refine Ops.nilCheckO rfl rfl rfl rfl ?_; refine Ops.fldO rfl rfl rfl (by with_reducible first | exact fC0 | exact fC1 | exact fR0 | exact fR1) rfl ?_; refine Ops.ld1A rfl rfl rfl rfl rfl (by with_reducible first | exact lBytes | exact lInt | exact lInts) rfl ?_; refine Ops.ld1A rfl rfl rfl rfl rfl (by with_reducible first | exact lBytes | exact lInt | exact lInts) rfl ?_; refine Ops.lenF rfl rfl (by with_reducible exact sBytes.und) (List.length_map ..) rfl ?_; refine Ops.ibin igeq rfl rfl rfl rfl ?_; refine Ops.move rfl rfl rfl ?_)
  refine Ops.splitP 16 rfl (fun h => ?_) (fun h => ?_)
  · (refine Ops.skip rfl rfl rfl ?_; refine Ops.skip rfl rfl rfl ?_; refine Ops.pickT rfl rfl rfl rfl ?_; refine Ops.nil (hK _ _ ?_); clear hK K; refine Fin.then ?_; refine St.condT rfl ?_; refine St.seq ?_; refine St.regionK (fun K hK => ?_); refine Ops.assign rfl rfl rfl ?_; refine Ops.nil (hK _ _ ?_); clear hK K; refine Fin.then ?_; refine St.ret ?_; refine Fin.thenRet ?_)
    refine Fin.retB (0, p) [_] rfl (AllRes.tmp rfl AllRes.nil) rfl rfl ⟨by show (0 : Int) ≤ 0; omega, by show (0 : Int) < n; omega⟩
  · (refine Ops.move rfl rfl rfl ?_; refine Ops.ibin ilss rfl rfl rfl rfl ?_; refine Ops.pickF rfl rfl rfl rfl ?_; refine Ops.nil (hK _ _ ?_); clear hK K; refine Fin.then ?_)
    refine St.condP rfl (fun h' => ?_) (fun h' => ?_)
    · exact absurd h' (by omega)
    · (refine St.skip ?_; refine Fin.then ?_; refine St.seq ?_)
      refine St.drawK (by with_reducible exact mixed) 12 (.p 0 (.p 1 (.p 2 (.p 4 (.p 5 (.p 6 (.f 3 (.f 7 (.p 8 (.f 9 (.p 10 (.p 11 .done)))))))))))) (by kernel_rfl) (fun K hK => ?_)
      (refine Ops.move rfl rfl rfl ?_; refine Ops.nilCheckO rfl rfl rfl rfl ?_; refine Ops.fldO rfl rfl rfl (by with_reducible first | exact fC0 | exact fC1 | exact fR0 | exact fR1) rfl ?_; refine Ops.move rfl rfl rfl ?_; refine Ops.nilCheckO rfl rfl rfl rfl ?_; refine Ops.fldO rfl rfl rfl (by with_reducible first | exact fC0 | exact fC1 | exact fR0 | exact fR1) rfl ?_; refine Ops.ld1A rfl rfl rfl rfl rfl (by with_reducible first | exact lBytes | exact lInt | exact lInts) rfl ?_; refine Ops.ld1A rfl rfl rfl rfl rfl (by with_reducible first | exact lBytes | exact lInt | exact lInts) rfl ?_; refine Ops.idxF rfl rfl rfl (by with_reducible exact sBytes) (by omega) (bytes_at (by omega) (by omega)) rfl ?_; refine Ops.ld1F rfl rfl rfl (by with_reducible exact lU8) rfl ?_)
      have hx := hb.at p
      generalize he : bs.getD p 0 = x at hx
      refine Ops.conv (q := x) rfl rfl (by with_reducible exact uU8) (by with_reducible exact uInt) (by rw [Int.toNat_natCast, he]; exact wrap_id (by omega) (by omega)) rfl ?_
      (refine Ops.assign rfl rfl rfl ?_; refine Ops.nil (hK _ _ ?_); clear hK K; refine Fin.then ?_; refine St.seq ?_; refine St.regionK (fun K hK => ?_); refine Ops.move rfl rfl rfl ?_; refine Ops.nilCheckO rfl rfl rfl rfl ?_; refine Ops.fldO rfl rfl rfl (by with_reducible first | exact fC0 | exact fC1 | exact fR0 | exact fR1) rfl ?_; refine Ops.ld1A rfl rfl rfl rfl rfl (by with_reducible first | exact lBytes | exact lInt | exact lInts) rfl ?_; refine Ops.ibin (iadd (by omega) (by omega)) rfl rfl rfl rfl ?_; refine Ops.nilCheckO rfl rfl rfl rfl ?_; refine Ops.fldO rfl rfl rfl (by with_reducible first | exact fC0 | exact fC1 | exact fR0 | exact fR1) rfl ?_; refine Ops.st1A rfl rfl rfl rfl rfl (by with_reducible exact zInt) (by simp [Ent.cs]) ?_; refine Ops.nil (hK _ _ ?_); clear hK K; refine Fin.then ?_; refine St.seq ?_; refine St.seq ?_; refine St.regionK (fun K hK => ?_); refine Ops.move rfl rfl rfl ?_; refine Ops.ibin igtr rfl rfl rfl rfl ?_; refine Ops.nil (hK _ _ ?_); clear hK K; refine Fin.then ?_)
      refine St.condP rfl (fun h' => ?_) (fun h' => ?_)
      · exact absurd h' (by omega)
      · (refine St.skip ?_; refine Fin.then ?_; refine St.seq ?_; refine St.regionK (fun K hK => ?_); refine Ops.move rfl rfl rfl ?_; refine Ops.move rfl rfl rfl ?_; refine Ops.ibin (irem (by omega) (by omega)) rfl rfl rfl rfl ?_; refine Ops.assign rfl rfl rfl ?_; refine Ops.nil (hK _ _ ?_); clear hK K; refine Fin.then ?_; refine St.ret ?_)
        refine Fin.retB (x % n, p + 1) [_] rfl (AllRes.tmp rfl AllRes.nil) rfl rfl ⟨Int.emod_nonneg _ (by omega), Int.emod_lt_of_pos _ (by omega)⟩
theorem goNew : InGo Tryz.prog 56 := InGo.of Tryz.func56 rfl (by decide)
theorem New_ok (bs : List Int) : OkN Tryz.prog 56 [bytesC bs, intC 400] 82 (codes (bs.take 400) 0) := by
  refine OkN.enter Tryz.func56 rfl _ Tryz.ntmps56 rfl ?_
  intro S w
  (refine St.seq ?_; refine St.regionK (fun K hK => ?_); refine Ops.assign rfl rfl rfl ?_; refine Ops.nil (hK _ _ ?_); clear hK K; refine Fin.then ?_; refine St.seq ?_; refine St.seq ?_; refine St.regionK (fun K hK => ?_); refine Ops.move rfl rfl rfl ?_; refine Ops.lenF rfl rfl (by with_reducible exact sBytes.und) (List.length_map ..) rfl ?_; refine Ops.move rfl rfl rfl ?_; refine Ops.ibin igtr rfl rfl rfl rfl ?_; refine Ops.nil (hK _ _ ?_); clear hK K; refine Fin.then ?_)
  refine St.condP rfl (fun h' => ?_) (fun h' => ?_)
  · (refine St.regionK (fun K hK => ?_); refine Ops.move rfl rfl rfl ?_; refine Ops.move rfl rfl rfl ?_)
    refine Ops.cutHi rfl rfl rfl (by with_reducible exact sBytes) (by omega) (by rw [List.length_map]; omega) rfl ?_
    rw [← List.map_take]
    (refine Ops.assign rfl rfl rfl ?_; refine Ops.nil (hK _ _ ?_); clear hK K; refine Fin.then ?_; refine St.seq ?_; refine St.regionK (fun K hK => ?_); refine Ops.move rfl rfl rfl ?_)
    refine Ops.build rfl (by with_reducible exact bCodes) rfl (.one rfl rfl rfl rfl .nil) rfl ?_
    (refine Ops.boxN 0 rfl rfl rfl rfl rfl rfl rfl ?_; refine Ops.assign rfl rfl rfl ?_; refine Ops.nil (hK _ _ ?_); clear hK K; refine Fin.then ?_; refine St.ret ?_)
    refine Fin.retN rfl rfl rfl rfl
  · (refine St.skip ?_; refine Fin.then ?_; refine St.seq ?_; refine St.regionK (fun K hK => ?_); refine Ops.move rfl rfl rfl ?_)
    refine Ops.build rfl (by with_reducible exact bCodes) rfl (.one rfl rfl rfl rfl .nil) rfl ?_
    (refine Ops.boxN 0 rfl rfl rfl rfl rfl rfl rfl ?_; refine Ops.assign rfl rfl rfl ?_; refine Ops.nil (hK _ _ ?_); clear hK K; refine Fin.then ?_; refine St.ret ?_)
    refine Fin.retN rfl rfl (by rw [List.take_of_length_le (by omega)]; rfl) rfl
theorem goRoll : InGo Tryz.prog 13 := InGo.of Tryz.func13 rfl (by decide)
theorem Roll_ok (bs : List Int) : OkN Tryz.prog 13 [bytesC bs] 82 (codes (bs.take 400) 0) := by
  refine OkN.enter Tryz.func13 rfl _ Tryz.ntmps13 rfl ?_
  intro S w
  (refine St.seq ?_; refine St.regionK (fun K hK => ?_); refine Ops.assign rfl rfl rfl ?_; refine Ops.nil (hK _ _ ?_); clear hK K; refine Fin.then ?_; refine St.seq ?_; refine St.regionK (fun K hK => ?_); refine Ops.move rfl rfl rfl ?_)
  refine Ops.callN 0 goNew (New_ok bs) rfl rfl rfl rfl rfl rfl ?_
  (refine Ops.assign rfl rfl rfl ?_; refine Ops.nil (hK _ _ ?_); clear hK K; refine Fin.then ?_; refine St.ret ?_)
  refine Fin.retN rfl rfl rfl rfl
theorem goPick : InGo Tryz.prog 27 := InGo.of Tryz.func27 rfl (by decide)
theorem Pick_ok (bs : List Int) (p : Nat) (xs : List Int) (h1 : 1 ≤ xs.length) (h2 : xs.length ≤ 256) (hb : Bytes bs) :
    OkB Tryz.prog 27 82 (codes bs p) [intsC xs] (fun q : Int × Nat => q.1 ∈ xs) (fun q => intC q.1) (fun q => codes bs q.2) := by
  refine OkB.enter Tryz.func27 rfl _ Tryz.ntmps27 rfl ?_
  intro S w g
  (refine St.seq ?_; refine St.regionK (fun K hK => ?_); refine Ops.assign rfl rfl rfl ?_; refine Ops.nil (hK _ _ ?_); clear hK K; refine Fin.then ?_; refine St.seq ?_; refine St.regionK (fun K hK => ?_); refine Ops.move rfl rfl rfl ?_; refine Ops.move rfl rfl rfl ?_; refine Ops.move rfl rfl rfl ?_; refine Ops.lenF rfl rfl (by with_reducible first | exact sNat.und | exact sInts.und) (List.length_map ..) rfl ?_)
  refine Ops.callB goNext (Next_ok bs p xs.length (by omega) (by omega) hb) rfl rfl rfl rfl rfl (fun q hq => ?_)
  obtain ⟨x, p'⟩ := q
  dsimp only at hq
  (refine Ops.idxF rfl rfl rfl (by with_reducible first | exact sNat | exact sInts) (by omega) (ints_at (by omega) (by omega)) rfl ?_; refine Ops.ld1F rfl rfl rfl (by with_reducible first | exact lInt | exact lNat | exact lBool | exact lInts) rfl ?_; refine Ops.assign rfl rfl rfl ?_; refine Ops.nil (hK _ _ ?_); clear hK K; refine Fin.then ?_; refine St.ret ?_)
  refine Fin.retB (xs.getD x.toNat 0, p') [_] rfl (AllRes.tmp rfl AllRes.nil) rfl rfl ?_
  show xs.getD x.toNat 0 ∈ xs
  have hl : x.toNat < xs.length := by omega
  rw [List.getD_eq_getElem?_getD, List.getElem?_eq_getElem hl]
  exact List.getElem_mem hl
end Go.Proofs.YtdhmbgogmoaofaaGreat
namespace Go.Proofs.YtdhmbgogmoaofaaGreat
open Go.Own
attribute [local irreducible] St Ops Go.Own.Fin Ok OkB OkN
theorem goBool : InGo Tryz.prog 24 := InGo.of Tryz.func24 rfl (by decide)
theorem Bool_ok (bs : List Int) (p : Nat) (n : Int) (h1 : 1 ≤ n) (h2 : n ≤ 256) (hb : Bytes bs) :
    OkB Tryz.prog 24 82 (codes bs p) [intC n] (fun _ : Bool × Nat => True) (fun q => boolC q.1) (fun q => codes bs q.2) := by
  refine OkB.enter Tryz.func24 rfl _ Tryz.ntmps24 rfl ?_
  intro S w g
  (refine St.seq ?_; refine St.regionK (fun K hK => ?_); refine Ops.assign rfl rfl rfl ?_; refine Ops.nil (hK _ _ ?_); clear hK K; refine Fin.then ?_; refine St.seq ?_; refine St.regionK (fun K hK => ?_); refine Ops.move rfl rfl rfl ?_; refine Ops.move rfl rfl rfl ?_)
  refine Ops.callB goNext (Next_ok bs p n h1 h2 hb) rfl rfl rfl rfl rfl (fun q hq => ?_)
  obtain ⟨x, p'⟩ := q
  dsimp only at hq
  (refine Ops.move rfl rfl rfl ?_; refine Ops.ibin (isub (by omega) (by omega)) rfl rfl rfl rfl ?_; refine Ops.ibin ieql rfl rfl rfl rfl ?_; refine Ops.assign rfl rfl rfl ?_; refine Ops.nil (hK _ _ ?_); clear hK K; refine Fin.then ?_; refine St.ret ?_)
  refine Fin.retB (decide (x = n - 1), p') [_] rfl (AllRes.tmp rfl AllRes.nil) rfl rfl trivial
end Go.Proofs.YtdhmbgogmoaofaaGreat
namespace Go.Proofs.YtdhmbgogmoaofaaGreat
open Go.Own Go.Limbs
attribute [local irreducible] St Ops Go.Own.Fin Ok OkB OkN wpA
theorem zIntsD : (Tryz.prog.info? 24).map (·.size) = some 1 := by kernel_rfl
theorem bRow : bInfo Tryz.prog 57 = some (.agg #[.slice none 0 0, .int .i64 0], [(0, some 1), (1, some 1)]) := by kernel_rfl
def rws (rs : List Rw) : List CT := (rs.map rwCs).flatten
theorem rws_len (rs : List Rw) : (rws rs).length = rs.length * 2 := by
  unfold rws
  rw [flatten_length (k := 2) (fun e he => by obtain ⟨m, _, rfl⟩ := List.mem_map.mp he; rfl)]; simp
theorem rws_snoc (rs : List Rw) (r : Rw) : rws (rs ++ [r]) = rws rs ++ rwCs r := by simp [rws]
theorem rws_frozen (e : Nat) (rs : List Rw) : (Ent.row e 2 (rws rs)).frozen (sliceT 2 (rs.map rwCs)) :=
  ⟨_, rfl, fun e he => by obtain ⟨m, _, rfl⟩ := List.mem_map.mp he; rfl, by decide, rfl⟩
structure RowIn (n : Int) (r : Rw) : Prop where
  len : (r.cs.length : Int) ≤ n
  lo : ∀ c ∈ r.cs, -3 ≤ c ∧ c ≤ 5
  b1 : -4503599627370496 ≤ r.b
  b2 : r.b ≤ 4503599627370496
structure Lp where
  n : Int
  rs : List Rw
  c : List Int
  p : Nat
structure LpIn (q : Lp) : Prop where
  n0 : 0 ≤ q.n
  n1 : q.n ≤ 4
  rl : q.rs.length ≤ 6
  rs : ∀ r ∈ q.rs, RowIn q.n r
  cl : (q.c.length : Int) ≤ q.n
  c : ∀ c ∈ q.c, -2 ≤ c ∧ c ≤ 4
theorem mem_snoc {α : Type} {P : α → Prop} {xs : List α} {x : α} (h : ∀ y ∈ xs, P y) (hx : P x) : ∀ y ∈ xs ++ [x], P y := fun y hy => by
  rcases List.mem_append.1 hy with h1 | h1
  · exact h y h1
  · rcases List.mem_singleton.1 h1 with rfl; exact hx
set_option maxHeartbeats 4000000 in
theorem Program_ok (bs : List Int) (p : Nat) (hb : Bytes bs) :
    OkB Tryz.prog 14 82 (codes bs p) [] LpIn (fun q => .fr (tupT [intC q.n, rowsC q.rs, intsC q.c])) (fun q => codes bs q.p) := by
  refine OkB.enter Tryz.func14 rfl _ Tryz.ntmps14 rfl ?_
  intro S w g
  (refine St.seq ?_; refine St.regionK (fun K hK => ?_); refine Ops.assign rfl rfl rfl ?_; refine Ops.assign rfl rfl rfl ?_; refine Ops.assign rfl rfl rfl ?_; refine Ops.nil (hK _ _ ?_); clear hK K; refine Fin.then ?_; refine St.seq ?_; refine St.regionK (fun K hK => ?_); refine Ops.move rfl rfl rfl ?_)
  refine Ops.callB goNext (Next_ok bs p 5 (by decide) (by decide) hb) rfl rfl rfl rfl rfl (fun q hq => ?_)
  obtain ⟨n, p1⟩ := q
  dsimp only at hq ⊢
  (refine Ops.assign rfl rfl rfl ?_; refine Ops.nil (hK _ _ ?_); clear hK K; refine Fin.then ?_; refine St.seq ?_; refine St.regionK (fun K hK => ?_); refine Ops.assign rfl rfl rfl ?_; refine Ops.nil (hK _ _ ?_); clear hK K; refine Fin.then ?_; refine St.seq ?_; refine St.seq ?_; refine St.regionK (fun K hK => ?_); refine Ops.move rfl rfl rfl ?_)
  refine Ops.callB goNext (Next_ok bs p1 7 (by decide) (by decide) hb) rfl rfl rfl rfl rfl (fun q hq1 => ?_)
  obtain ⟨k0, p2⟩ := q
  dsimp only at hq1 ⊢
  (refine Ops.assign rfl rfl rfl ?_; refine Ops.nil (hK _ _ ?_); clear hK K; refine Fin.then ?_; refine St.block ?_)
  refine St.nilRow 6 1 57 2 rfl rfl rfl ?_
  refine St.loop (α := Int × List Rw × Nat) (fun x => 0 ≤ x.1 ∧ x.2.1.length + x.1 ≤ 6 ∧ ∀ r ∈ x.2.1, RowIn n r)
    (fun x => [(0, .own 0), (5, .ct (intC n)), (6, .own 1), (7, .ct (intC x.1))]) (fun x => [(1, .row 57 2 (rws x.2.1)), (0, .box 82 (codes bs x.2.2))]) (fun x => x.1.toNat) (k0, [], p2) ⟨by omega, by simp; omega, by simp⟩ (by exact Entails.of rfl ⟨rfl, rfl, rfl, rfl, trivial⟩) ?_
  rintro ⟨k, rs, p3⟩ ⟨hk0, hkl, hrs⟩
  dsimp only at hk0 hkl hrs ⊢
  (refine St.seq ?_; refine St.seq ?_; refine St.regionK (fun K hK => ?_); refine Ops.move rfl rfl rfl ?_; refine Ops.ibin igtr rfl rfl rfl rfl ?_; refine Ops.nil (hK _ _ ?_); clear hK K; refine Fin.then ?_)
  refine St.condP rfl (fun hk => ?_) (fun hk => ?_)
  · (refine St.skip ?_; refine Fin.then ?_; refine St.seq ?_; refine St.block ?_; refine St.seq ?_; refine St.regionK (fun K hK => ?_); refine Ops.move rfl rfl rfl ?_)
    refine Ops.callB goNext (Next_ok bs p3 30 (by decide) (by decide) hb) rfl rfl rfl rfl rfl (fun q hq2 => ?_)
    obtain ⟨b0, p4⟩ := q
    dsimp only at hq2 ⊢
    (refine Ops.ibin (isub (by omega) (by omega)) rfl rfl rfl rfl ?_)
    refine Ops.build rfl (by with_reducible exact bRow) rfl (.one rfl rfl rfl rfl .nil) rfl ?_
    (refine Ops.alloc 2 rfl rfl (by with_reducible exact zvRow) rfl rfl rfl ?_; refine Ops.stWN 2 rfl rfl rfl rfl rfl (by with_reducible exact szRow) rfl rfl ?_; refine Ops.nil (hK _ _ ?_); clear hK K; refine Fin.then ?_; refine St.seq ?_; refine St.seq ?_; refine St.regionK (fun K hK => ?_); refine Ops.move rfl rfl rfl ?_; refine Ops.move rfl rfl rfl ?_; refine Ops.ibin (iadd (by omega) (by omega)) rfl rfl rfl rfl ?_)
    refine Ops.callB goNext (Next_ok bs p4 (n + 1) (by omega) (by omega) hb) rfl rfl rfl rfl rfl (fun q hq3 => ?_)
    obtain ⟨i0, p5⟩ := q
    dsimp only at hq3 ⊢
    (refine Ops.assign rfl rfl rfl ?_; refine Ops.nil (hK _ _ ?_); clear hK K; refine Fin.then ?_; refine St.block ?_)
    refine St.nilX 3 3 1 rfl rfl ?_
    refine St.loop (α := Int × List Int × Value × Nat) (fun x => 0 ≤ x.1 ∧ x.2.1.length + x.1 ≤ n ∧ (∀ c ∈ x.2.1, -3 ≤ c ∧ c ≤ 5) ∧ x.2.2.1.oneCell' = true)
      (fun x => [(0, .own 0), (5, .ct (intC n)), (6, .own 1), (7, .ct (intC k)), (8, .own 2), (9, .ct (intC x.1))])
      (fun x => [(3, .rowx x.2.2.1 3 1 (ints x.2.1)), (2, .box 57 [.ex x.2.2.1, intC (b0 - 8)]), (1, .row 57 2 (rws rs)), (0, .box 82 (codes bs x.2.2.2))]) (fun x => x.1.toNat) (i0, [], .slice none 0 0, p5) ⟨by omega, by simp; omega, by simp, rfl⟩ (by exact Entails.of rfl ⟨rfl, rfl, rfl, rfl, rfl, rfl, trivial⟩) ?_
    · rintro ⟨i, cs, v, p6⟩ ⟨hi0, hil, hcs, hv⟩
      dsimp only at hi0 hil hcs hv ⊢
      (refine St.seq ?_; refine St.seq ?_; refine St.regionK (fun K hK => ?_); refine Ops.move rfl rfl rfl ?_; refine Ops.ibin igtr rfl rfl rfl rfl ?_; refine Ops.nil (hK _ _ ?_); clear hK K; refine Fin.then ?_)
      refine St.condP rfl (fun hi => ?_) (fun hi => ?_)
      · (refine St.skip ?_; refine Fin.then ?_; refine St.seq ?_; refine St.block ?_)
        refine St.drawA (by with_reducible exact mixed) (.p 0 (.p 2 (.fk 1 (.lin (.a 3 (.p 4 (.a 5 (.a 6 (.p 7 (.a 8 .done))))))) 3 (.p 4 (.fk 1 (.lin (.a 5 (.a 6 (.p 7 (.a 8 .done))))) 5 (.lin (.a 1 (.a 6 (.p 7 (.a 8 .done)))))))))) (by kernel_rfl) (fun K hK => ?_)
        refine Fin.p ?_
        (refine Ops.fldO rfl rfl rfl (by with_reducible first | exact fC0 | exact fC1 | exact fR0 | exact fR1) rfl ?_)
        refine Ops.nil (Fin.p ?_)
        (refine Ops.move rfl rfl rfl ?_)
        refine Ops.nil (Fin.fk ?_ ?_)
        · (refine Ops.ld1A rfl rfl rfl rfl rfl (by with_reducible first | exact lBytes | exact lInt | exact lInts) rfl ?_)
          refine Ops.nil (Fin.lin ?_)
          refine Ops.callB goNext (Next_ok bs p6 9 (by decide) (by decide) hb) rfl rfl rfl rfl rfl (fun q hq4 => ?_)
          obtain ⟨c, p7⟩ := q
          dsimp only at hq4 ⊢
          (refine Ops.ibin (isub (by omega) (by omega)) rfl rfl rfl rfl ?_)
          refine Ops.lit1 rfl rfl (by with_reducible exact sInts) rfl rfl rfl ?_
          skip
          refine Ops.link 33 3 rfl rfl ?_
          refine Ops.append1 cs.length (ints (cs ++ [c - 3])) rfl rfl rfl rfl (by with_reducible exact sInts) (by simp [ints]) rfl (by omega) (by omega) (by simp [ints]) rfl ?_
          (refine Ops.fldO rfl rfl rfl (by with_reducible first | exact fC0 | exact fC1 | exact fR0 | exact fR1) rfl ?_)
          refine Ops.name 38 3 rfl rfl (fun v' hv' => ?_)
          refine Ops.st1A (c := .ex v') rfl rfl rfl rfl hv' (by with_reducible exact zIntsD) (by simp [Ent.cs]) ?_
          (refine Ops.nil (hK _ _ ?_); clear hK K; refine Fin.then ?_; refine St.regionK (fun K hK => ?_); refine Ops.move rfl rfl rfl ?_; refine Ops.ibin (isub (by omega) (by omega)) rfl rfl rfl rfl ?_; refine Ops.assign rfl rfl rfl ?_; refine Ops.nil (hK _ _ ?_); clear hK K; refine Fin.thenN ?_)
          refine Fin.next (i - 1, cs ++ [c - 3], v', p7) (by dsimp only; omega) ⟨by dsimp only; omega, by simp; omega, mem_snoc hcs (by omega), hv'⟩ (by exact Entails.of rfl ⟨rfl, rfl, rfl, rfl, rfl, rfl, trivial⟩)
        · refine Ops.callB goNext (Next_ok bs p6 9 (by decide) (by decide) hb) rfl rfl rfl rfl rfl (fun q hq4 => ?_)
          obtain ⟨c, p7⟩ := q
          dsimp only at hq4 ⊢
          skip
          refine Ops.nil (Fin.p ?_)
          (refine Ops.ibin (isub (by omega) (by omega)) rfl rfl rfl rfl ?_)
          refine Ops.nil (Fin.fk ?_ ?_)
          · (refine Ops.ld1A rfl rfl rfl rfl rfl (by with_reducible first | exact lBytes | exact lInt | exact lInts) rfl ?_)
            refine Ops.nil (Fin.lin ?_)
            refine Ops.lit1 rfl rfl (by with_reducible exact sInts) rfl rfl rfl ?_
            skip
            refine Ops.link 33 3 rfl rfl ?_
            refine Ops.append1 cs.length (ints (cs ++ [c - 3])) rfl rfl rfl rfl (by with_reducible exact sInts) (by simp [ints]) rfl (by omega) (by omega) (by simp [ints]) rfl ?_
            (refine Ops.fldO rfl rfl rfl (by with_reducible first | exact fC0 | exact fC1 | exact fR0 | exact fR1) rfl ?_)
            refine Ops.name 38 3 rfl rfl (fun v' hv' => ?_)
            refine Ops.st1A (c := .ex v') rfl rfl rfl rfl hv' (by with_reducible exact zIntsD) (by simp [Ent.cs]) ?_
            (refine Ops.nil (hK _ _ ?_); clear hK K; refine Fin.then ?_; refine St.regionK (fun K hK => ?_); refine Ops.move rfl rfl rfl ?_; refine Ops.ibin (isub (by omega) (by omega)) rfl rfl rfl rfl ?_; refine Ops.assign rfl rfl rfl ?_; refine Ops.nil (hK _ _ ?_); clear hK K; refine Fin.thenN ?_)
            refine Fin.next (i - 1, cs ++ [c - 3], v', p7) (by dsimp only; omega) ⟨by dsimp only; omega, by simp; omega, mem_snoc hcs (by omega), hv'⟩ (by exact Entails.of rfl ⟨rfl, rfl, rfl, rfl, rfl, rfl, trivial⟩)
          · refine Ops.lit1 rfl rfl (by with_reducible exact sInts) rfl rfl rfl ?_
            refine Ops.nil (Fin.lin ?_)
            (refine Ops.ld1A rfl rfl rfl rfl rfl (by with_reducible first | exact lBytes | exact lInt | exact lInts) rfl ?_)
            refine Ops.link 33 3 rfl rfl ?_
            refine Ops.append1 cs.length (ints (cs ++ [c - 3])) rfl rfl rfl rfl (by with_reducible exact sInts) (by simp [ints]) rfl (by omega) (by omega) (by simp [ints]) rfl ?_
            (refine Ops.fldO rfl rfl rfl (by with_reducible first | exact fC0 | exact fC1 | exact fR0 | exact fR1) rfl ?_)
            refine Ops.name 38 3 rfl rfl (fun v' hv' => ?_)
            refine Ops.st1A (c := .ex v') rfl rfl rfl rfl hv' (by with_reducible exact zIntsD) (by simp [Ent.cs]) ?_
            (refine Ops.nil (hK _ _ ?_); clear hK K; refine Fin.then ?_; refine St.regionK (fun K hK => ?_); refine Ops.move rfl rfl rfl ?_; refine Ops.ibin (isub (by omega) (by omega)) rfl rfl rfl rfl ?_; refine Ops.assign rfl rfl rfl ?_; refine Ops.nil (hK _ _ ?_); clear hK K; refine Fin.thenN ?_)
            refine Fin.next (i - 1, cs ++ [c - 3], v', p7) (by dsimp only; omega) ⟨by dsimp only; omega, by simp; omega, mem_snoc hcs (by omega), hv'⟩ (by exact Entails.of rfl ⟨rfl, rfl, rfl, rfl, rfl, rfl, trivial⟩)
      · refine St.frzX 3 2 0 _ rfl rfl rfl (ints_frozen _ _) (okFix_lent rfl) ?_
        (refine St.exit ?_; refine Fin.then ?_; refine St.seq ?_; refine St.seq ?_; refine St.regionK (fun K hK => ?_); refine Ops.move rfl rfl rfl ?_)
        refine Ops.callB goBool (Bool_ok bs p6 16 (by decide) (by decide) hb) rfl rfl rfl rfl rfl (fun q _ => ?_)
        obtain ⟨b, p7⟩ := q
        dsimp only
        (refine Ops.nil (hK _ _ ?_); clear hK K; refine Fin.then ?_)
        refine St.condB rfl (fun _ => ?_) (fun _ => ?_)
        · (refine St.regionK (fun K hK => ?_); refine Ops.move rfl rfl rfl ?_)
          refine Ops.lit (m := 2) (cs := [intC (-4503599627370496), intC 4503599627370496]) rfl rfl (by with_reducible exact sInts) (.one rfl rfl rfl rfl (.one rfl rfl rfl rfl .nil)) (by decide) rfl ?_
          refine Ops.callB goPick (Pick_ok bs p7 [-4503599627370496, 4503599627370496] (by decide) (by decide) hb) rfl rfl rfl rfl rfl (fun q hq5 => ?_)
          obtain ⟨b1, p8⟩ := q
          have hb1 : b1 = -4503599627370496 ∨ b1 = 4503599627370496 := by simpa using hq5
          dsimp only
          (refine Ops.fldO rfl rfl rfl (by with_reducible first | exact fC0 | exact fC1 | exact fR0 | exact fR1) rfl ?_; refine Ops.st1A rfl rfl rfl rfl rfl (by with_reducible exact zInt) (by simp [Ent.cs]) ?_; refine Ops.nil (hK _ _ ?_); clear hK K; refine Fin.then ?_; refine St.regionK (fun K hK => ?_); refine Ops.move rfl rfl rfl ?_; refine Ops.ldNO (n := 2) rfl rfl rfl rfl rfl (by with_reducible exact lRow) rfl ?_)
          refine Ops.litN (n := 2) rfl rfl (by with_reducible exact sRows) rfl rfl (by decide) rfl ?_
          refine Ops.append1 rs.length (rws (rs ++ [⟨cs, b1⟩])) rfl rfl rfl rfl (by with_reducible exact sRows) (rws_len rs) rfl (by omega) (by omega) (rws_snoc rs ⟨cs, b1⟩) rfl ?_
          (refine Ops.assign rfl rfl rfl ?_; refine Ops.nil (hK _ _ ?_); clear hK K; refine Fin.then ?_; refine St.regionK (fun K hK => ?_); refine Ops.move rfl rfl rfl ?_; refine Ops.ibin (isub (by omega) (by omega)) rfl rfl rfl rfl ?_; refine Ops.assign rfl rfl rfl ?_; refine Ops.nil (hK _ _ ?_); clear hK K; refine Fin.thenN ?_)
          refine Fin.dropB 2 ?_
          refine Fin.next (k - 1, rs ++ [⟨cs, b1⟩], p8) (by dsimp only; omega) ⟨by dsimp only; omega, by simp; omega, mem_snoc hrs ⟨by dsimp only; omega, hcs, by dsimp only; omega, by dsimp only; omega⟩⟩ (by exact Entails.of rfl ⟨rfl, rfl, rfl, rfl, trivial⟩)
        · (refine St.skip ?_; refine Fin.then ?_; refine St.regionK (fun K hK => ?_); refine Ops.move rfl rfl rfl ?_; refine Ops.ldNO (n := 2) rfl rfl rfl rfl rfl (by with_reducible exact lRow) rfl ?_)
          refine Ops.litN (n := 2) rfl rfl (by with_reducible exact sRows) rfl rfl (by decide) rfl ?_
          refine Ops.append1 rs.length (rws (rs ++ [⟨cs, b0 - 8⟩])) rfl rfl rfl rfl (by with_reducible exact sRows) (rws_len rs) rfl (by omega) (by omega) (rws_snoc rs ⟨cs, b0 - 8⟩) rfl ?_
          (refine Ops.assign rfl rfl rfl ?_; refine Ops.nil (hK _ _ ?_); clear hK K; refine Fin.then ?_; refine St.regionK (fun K hK => ?_); refine Ops.move rfl rfl rfl ?_; refine Ops.ibin (isub (by omega) (by omega)) rfl rfl rfl rfl ?_; refine Ops.assign rfl rfl rfl ?_; refine Ops.nil (hK _ _ ?_); clear hK K; refine Fin.thenN ?_)
          refine Fin.dropB 2 ?_
          refine Fin.next (k - 1, rs ++ [⟨cs, b0 - 8⟩], p7) (by dsimp only; omega) ⟨by dsimp only; omega, by simp; omega, mem_snoc hrs ⟨by dsimp only; omega, hcs, by dsimp only; omega, by dsimp only; omega⟩⟩ (by exact Entails.of rfl ⟨rfl, rfl, rfl, rfl, trivial⟩)
  · (refine St.exit ?_; refine Fin.then ?_; refine St.seq ?_; refine St.regionK (fun K hK => ?_); refine Ops.assign rfl rfl rfl ?_; refine Ops.nil (hK _ _ ?_); clear hK K; refine Fin.then ?_; refine St.seq ?_; refine St.seq ?_; refine St.regionK (fun K hK => ?_); refine Ops.move rfl rfl rfl ?_; refine Ops.move rfl rfl rfl ?_; refine Ops.ibin (iadd (by omega) (by omega)) rfl rfl rfl rfl ?_)
    refine Ops.callB goNext (Next_ok bs p3 (n + 1) (by omega) (by omega) hb) rfl rfl rfl rfl rfl (fun q hq3 => ?_)
    obtain ⟨i0, p5⟩ := q
    dsimp only at hq3 ⊢
    (refine Ops.assign rfl rfl rfl ?_; refine Ops.nil (hK _ _ ?_); clear hK K; refine Fin.then ?_; refine St.block ?_)
    refine St.nilRow 10 2 3 1 rfl rfl rfl ?_
    refine St.loop (α := Int × List Int × Nat) (fun x => 0 ≤ x.1 ∧ x.2.1.length + x.1 ≤ n ∧ (∀ c ∈ x.2.1, -2 ≤ c ∧ c ≤ 4))
      (fun x => [(0, .own 0), (5, .ct (intC n)), (6, .own 1), (10, .own 2), (11, .ct (intC x.1))])
      (fun x => [(2, .row 3 1 (ints x.2.1)), (1, .row 57 2 (rws rs)), (0, .box 82 (codes bs x.2.2))]) (fun x => x.1.toNat) (i0, [], p5) ⟨by omega, by simp; omega, by simp⟩ (by exact Entails.of rfl ⟨rfl, rfl, rfl, rfl, rfl, trivial⟩) ?_
    rintro ⟨i, cs, p6⟩ ⟨hi0, hil, hcs⟩
    dsimp only at hi0 hil hcs ⊢
    (refine St.seq ?_; refine St.seq ?_; refine St.regionK (fun K hK => ?_); refine Ops.move rfl rfl rfl ?_; refine Ops.ibin igtr rfl rfl rfl rfl ?_; refine Ops.nil (hK _ _ ?_); clear hK K; refine Fin.then ?_)
    refine St.condP rfl (fun hi => ?_) (fun hi => ?_)
    · (refine St.skip ?_; refine Fin.then ?_; refine St.seq ?_; refine St.block ?_; refine St.regionK (fun K hK => ?_); refine Ops.move rfl rfl rfl ?_; refine Ops.move rfl rfl rfl ?_)
      refine Ops.callB goNext (Next_ok bs p6 7 (by decide) (by decide) hb) rfl rfl rfl rfl rfl (fun q hq4 => ?_)
      obtain ⟨c, p7⟩ := q
      dsimp only at hq4 ⊢
      (refine Ops.ibin (isub (by omega) (by omega)) rfl rfl rfl rfl ?_)
      refine Ops.lit1 rfl rfl (by with_reducible exact sInts) rfl rfl rfl ?_
      refine Ops.append1 cs.length (ints (cs ++ [c - 2])) rfl rfl rfl rfl (by with_reducible exact sInts) (by simp [ints]) rfl (by omega) (by omega) (by simp [ints]) rfl ?_
      (refine Ops.assign rfl rfl rfl ?_; refine Ops.nil (hK _ _ ?_); clear hK K; refine Fin.then ?_; refine St.regionK (fun K hK => ?_); refine Ops.move rfl rfl rfl ?_; refine Ops.ibin (isub (by omega) (by omega)) rfl rfl rfl rfl ?_; refine Ops.assign rfl rfl rfl ?_; refine Ops.nil (hK _ _ ?_); clear hK K; refine Fin.thenN ?_)
      refine Fin.next (i - 1, cs ++ [c - 2], p7) (by dsimp only; omega) ⟨by dsimp only; omega, by simp; omega, mem_snoc hcs (by omega)⟩ (by exact Entails.of rfl ⟨rfl, rfl, rfl, rfl, rfl, trivial⟩)
    · refine St.frz 1 _ rfl (rws_frozen _ _) (okFix_lent rfl) ?_
      refine St.frz 2 _ rfl (ints_frozen _ _) (okFix_lent rfl) ?_
      (refine St.exit ?_; refine Fin.then ?_; refine St.seq ?_; refine St.regionK (fun K hK => ?_); refine Ops.move rfl rfl rfl ?_; refine Ops.move rfl rfl rfl ?_; refine Ops.move rfl rfl rfl ?_; refine Ops.assign rfl rfl rfl ?_; refine Ops.assign rfl rfl rfl ?_; refine Ops.assign rfl rfl rfl ?_; refine Ops.nil (hK _ _ ?_); clear hK K; refine Fin.then ?_; refine St.ret ?_)
      refine Fin.retB ⟨n, rs, cs, p6⟩ [_, _, _] rfl (AllRes.tmp rfl (AllRes.tmp rfl (AllRes.tmp rfl AllRes.nil))) rfl rfl ⟨hq.1, by show n ≤ 4; omega, by show rs.length ≤ 6; omega, hrs, by show (cs.length : Int) ≤ n; omega, hcs⟩
theorem goProgram : InGo Tryz.prog 14 := InGo.of Tryz.func14 rfl (by decide)
end Go.Proofs.YtdhmbgogmoaofaaGreat
namespace Go.Proofs.YtdhmbgogmoaofaaGreat
open Go.Own Go.Limbs
attribute [local irreducible] St Ops Go.Own.Fin Ok OkB OkN wpA tf
def e2r1 : List Rw := [⟨[1, 1], 4⟩, ⟨[1], 3⟩]
def e2r2 : List Rw := [⟨[1], 3⟩, ⟨[-1], -5⟩]
def e2y : List Int := [12, 12]
theorem e2y_in : ∀ y ∈ e2y, 0 ≤ y ∧ y ≤ 1000 := by decide
theorem goawake : InGo Tryz.prog 39 := InGo.of Tryz.func39 rfl (by decide)
set_option maxHeartbeats 4000000 in
theorem awake_ok : Ok Tryz.prog 39 [] (boolC true) := by
  have hC := Ceiling_tw 2 e2r1 [2, 1] e2y (by decide) rfl e2y_in (by decide) (by decide) (by decide)
  have hB7 := Bounds_tw 2 e2r1 [2, 1] e2y 84 (by decide) rfl e2y_in (by decide) (by decide) (by unfold Tb; decide)
  have hB6 := Bounds_tw 2 e2r1 [2, 1] e2y 72 (by decide) rfl e2y_in (by decide) (by decide) (by unfold Tb; decide)
  have hR := Refutes_tw 1 e2r2 e2y (by decide) rfl e2y_in
  have hP := Prune_tw 2 e2r1 e2y (by decide) rfl e2y_in
  rw [show covB (cols e2r1 e2y 2) [2, 1] = true by decide] at hC hB7 hB6
  rw [show (if true = true then bsum e2r1 e2y / 12 else 0) = 7 by decide] at hC
  rw [show (true && !decide ((84 : Int) < bsum e2r1 e2y)) = true by decide] at hB7
  rw [show (true && !decide ((72 : Int) < bsum e2r1 e2y)) = false by decide] at hB6
  rw [show (decide (bsum e2r2 e2y < 0) && covB (cols e2r2 e2y 1) []) = true by decide] at hR
  rw [show pruned e2y e2y.length = [0, 1] by decide] at hP
  have hE := Equal_refl (tf 24) (Nat.le_trans (Tb.sz (by unfold Tb; decide)) (by decide)) (tf_lend 24)
  have w1 : Ok Tryz.prog 46 [intC 1] (twC 12) := lwhole_ok 1 (by decide) (by decide)
  have w2 : Ok Tryz.prog 46 [intC 2] (twC 24) := lwhole_ok 2 (by decide) (by decide)
  have w6 : Ok Tryz.prog 46 [intC 6] (twC 72) := lwhole_ok 6 (by decide) (by decide)
  have w7 : Ok Tryz.prog 46 [intC 7] (twC 84) := lwhole_ok 7 (by decide) (by decide)
  refine Ok.enter Tryz.func39 rfl _ Tryz.ntmps39 rfl ?_
  intro S w
  (refine St.seq ?_; refine St.regionK (fun K hK => ?_); refine Ops.assign rfl rfl rfl ?_; refine Ops.nil (hK _ _ ?_); clear hK K; refine Fin.then ?_; refine St.seq ?_; refine St.regionK (fun K hK => ?_))
  refine Ops.lit (m := 2) (cs := [intC 1, intC 1]) rfl rfl (by with_reducible exact sInts) (.one rfl rfl rfl rfl (.one rfl rfl rfl rfl .nil)) (by decide) rfl ?_
  refine Ops.build rfl (by with_reducible exact bRow) rfl (.one rfl rfl rfl rfl (.one rfl rfl rfl rfl .nil)) rfl ?_
  refine Ops.lit1 rfl rfl (by with_reducible exact sInts) rfl rfl rfl ?_
  refine Ops.build rfl (by with_reducible exact bRow) rfl (.one rfl rfl rfl rfl (.one rfl rfl rfl rfl .nil)) rfl ?_
  refine Ops.lit (m := 2) (n := 2) (cs := rwCs ⟨[1, 1], 4⟩ ++ rwCs ⟨[1], 3⟩) rfl rfl (by with_reducible exact sRows) (.agg rfl rfl rfl rfl (.agg rfl rfl rfl rfl .nil)) (by decide) rfl ?_
  (refine Ops.assign rfl rfl rfl ?_; refine Ops.nil (hK _ _ ?_); clear hK K; refine Fin.then ?_; refine St.seq ?_; refine St.regionK (fun K hK => ?_))
  refine Ops.call gowhole w1 rfl rfl rfl rfl ?_
  refine Ops.call gowhole w1 rfl rfl rfl rfl ?_
  refine Ops.lit (m := 2) (n := 3) (cs := frCs (tf 12) ++ frCs (tf 12)) rfl rfl (by with_reducible exact sFracs) (.agg rfl rfl rfl rfl (.agg rfl rfl rfl rfl .nil)) (by decide) rfl ?_
  refine Ops.assign rfl rfl rfl ?_
  refine Ops.nil (hK _ _ ?_)
  clear hK K
  refine Fin.keep [(1, .ct (rowsC e2r1)), (2, .ct (twsC e2y))] ⟨rfl, rfl, trivial⟩ ?_
  (refine Fin.then ?_; refine St.seq ?_; refine St.regionK (fun K hK => ?_); refine Ops.move rfl rfl rfl ?_)
  refine Ops.lit (m := 2) (cs := [intC 2, intC 1]) rfl rfl (by with_reducible exact sInts) (.one rfl rfl rfl rfl (.one rfl rfl rfl rfl .nil)) (by decide) rfl ?_
  (refine Ops.move rfl rfl rfl ?_)
  refine Ops.call goCeiling hC rfl rfl rfl rfl ?_
  (refine Ops.move rfl rfl rfl ?_; refine Ops.extract rfl rfl rfl rfl ?_; refine Ops.extract rfl rfl rfl rfl ?_; refine Ops.assign rfl rfl rfl ?_; refine Ops.assign rfl rfl rfl ?_; refine Ops.nil (hK _ _ ?_); clear hK K; refine Fin.then ?_; refine St.seq ?_; refine St.regionK (fun K hK => ?_); refine Ops.move rfl rfl rfl ?_)
  refine Ops.lit (m := 2) (cs := [intC 2, intC 1]) rfl rfl (by with_reducible exact sInts) (.one rfl rfl rfl rfl (.one rfl rfl rfl rfl .nil)) (by decide) rfl ?_
  (refine Ops.move rfl rfl rfl ?_)
  refine Ops.call gowhole w7 rfl rfl rfl rfl ?_
  refine Ops.call goBounds hB7 rfl rfl rfl rfl ?_
  (refine Ops.move rfl rfl rfl ?_; refine Ops.move rfl rfl rfl ?_)
  refine Ops.lit (m := 2) (cs := [intC 2, intC 1]) rfl rfl (by with_reducible exact sInts) (.one rfl rfl rfl rfl (.one rfl rfl rfl rfl .nil)) (by decide) rfl ?_
  (refine Ops.move rfl rfl rfl ?_)
  refine Ops.call gowhole w6 rfl rfl rfl rfl ?_
  refine Ops.call goBounds hB6 rfl rfl rfl rfl ?_
  (refine Ops.inot rfl rfl rfl ?_; refine Ops.pickT rfl rfl rfl rfl ?_; refine Ops.move rfl rfl rfl ?_; refine Ops.move rfl rfl rfl ?_; refine Ops.pickT rfl rfl rfl rfl ?_; refine Ops.move rfl rfl rfl ?_; refine Ops.move rfl rfl rfl ?_; refine Ops.ibin ieql rfl rfl rfl rfl ?_; refine Ops.pickT rfl rfl rfl rfl ?_; refine Ops.move rfl rfl rfl ?_)
  refine Ops.lit1 rfl rfl (by with_reducible exact sInts) rfl rfl rfl ?_
  refine Ops.build rfl (by with_reducible exact bRow) rfl (.one rfl rfl rfl rfl (.one rfl rfl rfl rfl .nil)) rfl ?_
  refine Ops.lit1 rfl rfl (by with_reducible exact sInts) rfl rfl rfl ?_
  refine Ops.build rfl (by with_reducible exact bRow) rfl (.one rfl rfl rfl rfl (.one rfl rfl rfl rfl .nil)) rfl ?_
  refine Ops.lit (m := 2) (n := 2) (cs := rwCs ⟨[1], 3⟩ ++ rwCs ⟨[-1], -5⟩) rfl rfl (by with_reducible exact sRows) (.agg rfl rfl rfl rfl (.agg rfl rfl rfl rfl .nil)) (by decide) rfl ?_
  (refine Ops.move rfl rfl rfl ?_)
  refine Ops.call goRefutes hR rfl rfl rfl rfl ?_
  (refine Ops.pickT rfl rfl rfl rfl ?_; refine Ops.move rfl rfl rfl ?_)
  refine Ops.call gowhole w2 rfl rfl rfl rfl ?_
  refine Ops.call gowhole w2 rfl rfl rfl rfl ?_
  refine Ops.call goEqual hE rfl rfl rfl rfl ?_
  (refine Ops.pickT rfl rfl rfl rfl ?_; refine Ops.move rfl rfl rfl ?_; refine Ops.move rfl rfl rfl ?_; refine Ops.move rfl rfl rfl ?_)
  refine Ops.call goPrune hP rfl rfl rfl rfl ?_
  (refine Ops.lenF rfl rfl (by with_reducible first | exact sNat.und | exact sInts.und) (List.length_map ..) rfl ?_; refine Ops.ibin ieql rfl rfl rfl rfl ?_; refine Ops.pickT rfl rfl rfl rfl ?_; refine Ops.assign rfl rfl rfl ?_; refine Ops.nil (hK _ _ ?_); clear hK K; refine Fin.then ?_; refine St.ret ?_)
  refine Fin.ret [_] rfl (AllRes.tmp rfl AllRes.nil) rfl rfl
end Go.Proofs.YtdhmbgogmoaofaaGreat
namespace Go.Proofs.YtdhmbgogmoaofaaGreat
open Go.Own Go.Limbs
attribute [local irreducible] St Ops Go.Own.Fin Ok OkB OkN wpA
theorem rFrom_tw (a b : Int) (ha : -9223372036854775808 ≤ a ∧ a ≤ 9223372036854775807) (hb : 0 ≤ b ∧ b < 4) : ∃ e : Int, 1 ≤ e ∧ e ≤ 12 ∧ Ok Tryz.prog 57 [intC a, intC (1 + b)] (.fr (tupT [twC (a * e), intC 0])) := by
  have hR := rFrom_ok a (1 + b) ha.1 ha.2 (by omega) (by omega) (by omega)
  have key : ∀ d e : Nat, d * e = 12 → 1 + b = (d : Int) → 1 ≤ (e : Int) → (e : Int) ≤ 12 → ∃ e : Int, 1 ≤ e ∧ e ≤ 12 ∧ Ok Tryz.prog 57 [intC a, intC (1 + b)] (.fr (tupT [twC (a * e), intC 0])) := fun d e h1 h2 h3 h4 => by
    refine ⟨(e : Int), h3, h4, ?_⟩
    have h5 : Rat.divInt a (1 + b) = tw (a * e) := by rw [h2]; exact tw_div a d e h1
    rw [h5] at hR
    exact hR
  rcases (by omega : 1 + b = 1 ∨ 1 + b = 2 ∨ 1 + b = 3 ∨ 1 + b = 4) with h | h | h | h
  · exact key 1 12 rfl h (by decide) (by decide)
  · exact key 2 6 rfl h (by decide) (by decide)
  · exact key 3 4 rfl h (by decide) (by decide)
  · exact key 4 3 rfl h (by decide) (by decide)
set_option maxHeartbeats 4000000 in
theorem Fractions_ok (bs : List Int) (p : Nat) (n : Int) (h0 : 0 ≤ n) (h1 : n ≤ 10) (hb : Bytes bs) :
    OkB Tryz.prog 15 82 (codes bs p) [intC n] (fun q : List Int × Nat => (q.1.length : Int) = n ∧ ∀ y ∈ q.1, 0 ≤ y ∧ y ≤ 132) (fun q => twsC q.1) (fun q => codes bs q.2) := by
  refine OkB.enter Tryz.func15 rfl _ Tryz.ntmps15 rfl ?_
  intro S w g
  (refine St.seq ?_; refine St.regionK (fun K hK => ?_); refine Ops.assign rfl rfl rfl ?_; refine Ops.nil (hK _ _ ?_); clear hK K; refine Fin.then ?_; refine St.seq ?_; refine St.regionK (fun K hK => ?_); refine Ops.assign rfl rfl rfl ?_; refine Ops.nil (hK _ _ ?_); clear hK K; refine Fin.then ?_; refine St.seq ?_; refine St.block ?_)
  refine St.nilRow 5 1 38 3 rfl rfl rfl ?_
  refine St.loop (α := Int × List Int × Nat) (fun x => 0 ≤ x.1 ∧ x.2.1.length + x.1 = n ∧ ∀ y ∈ x.2.1, 0 ≤ y ∧ y ≤ 132)
    (fun x => [(0, .own 0), (1, .ct (intC x.1)), (5, .own 1)]) (fun x => [(1, .row 38 3 (frs x.2.1)), (0, .box 82 (codes bs x.2.2))]) (fun x => x.1.toNat) (n, [], p) ⟨h0, by simp, by simp⟩ (by exact Entails.of rfl ⟨rfl, rfl, rfl, trivial⟩) ?_
  rintro ⟨m, ys, p1⟩ ⟨hm0, hml, hys⟩
  dsimp only at hm0 hml hys ⊢
  (refine St.seq ?_; refine St.seq ?_; refine St.regionK (fun K hK => ?_); refine Ops.move rfl rfl rfl ?_; refine Ops.ibin igtr rfl rfl rfl rfl ?_; refine Ops.nil (hK _ _ ?_); clear hK K; refine Fin.then ?_)
  refine St.condP rfl (fun hm => ?_) (fun hm => ?_)
  · (refine St.skip ?_; refine Fin.then ?_; refine St.seq ?_; refine St.block ?_; refine St.seq ?_; refine St.regionK (fun K hK => ?_); refine Ops.move rfl rfl rfl ?_)
    refine Ops.callB goNext (Next_ok bs p1 12 (by decide) (by decide) hb) rfl rfl rfl rfl rfl (fun q hq => ?_)
    obtain ⟨a, p2⟩ := q
    dsimp only at hq ⊢
    (refine Ops.move rfl rfl rfl ?_)
    refine Ops.callB goNext (Next_ok bs p2 4 (by decide) (by decide) hb) rfl rfl rfl rfl rfl (fun q hq1 => ?_)
    obtain ⟨b, p3⟩ := q
    dsimp only at hq1 ⊢
    obtain ⟨e, he1, he2, hF⟩ := rFrom_tw a b ⟨by omega, by omega⟩ hq1
    have hae : 0 ≤ a * e ∧ a * e ≤ 132 := ⟨Int.mul_nonneg (by omega) (by omega), by
      have h1 := Int.mul_le_mul_of_nonneg_right (show a ≤ 11 by omega) (show 0 ≤ e by omega)
      omega⟩
    generalize a * e = y at hF hae
    (refine Ops.ibin (iadd (by omega) (by omega)) rfl rfl rfl rfl ?_)
    refine Ops.call gorFrom hF rfl rfl rfl rfl ?_
    (refine Ops.move rfl rfl rfl ?_; refine Ops.extract rfl rfl rfl rfl ?_; refine Ops.extract rfl rfl rfl rfl ?_; refine Ops.alloc 2 rfl rfl (by with_reducible first | exact zvFrac) rfl rfl rfl ?_; refine Ops.stWN 3 rfl rfl rfl rfl rfl (by with_reducible exact szFrac) rfl rfl ?_; refine Ops.assign rfl rfl rfl ?_; refine Ops.nil (hK _ _ ?_); clear hK K; refine Fin.then ?_; refine St.regionK (fun K hK => ?_); refine Ops.move rfl rfl rfl ?_; refine Ops.ldNO (n := 3) rfl rfl rfl rfl rfl (by with_reducible exact lFrac) rfl ?_)
    refine Ops.litN (n := 3) rfl rfl (by with_reducible exact sFracs) rfl rfl (by decide) rfl ?_
    refine Ops.append1 ys.length (frs (ys ++ [y])) rfl rfl rfl rfl (by with_reducible exact sFracs) (frs_len ys) rfl (by omega) (by omega) (frs_snoc ys y) rfl ?_
    (refine Ops.assign rfl rfl rfl ?_; refine Ops.nil (hK _ _ ?_); clear hK K; refine Fin.then ?_; refine St.regionK (fun K hK => ?_); refine Ops.move rfl rfl rfl ?_; refine Ops.ibin (isub (by omega) (by omega)) rfl rfl rfl rfl ?_; refine Ops.assign rfl rfl rfl ?_; refine Ops.nil (hK _ _ ?_); clear hK K; refine Fin.thenN ?_)
    refine Fin.dropB 2 ?_
    refine Fin.next (m - 1, ys ++ [y], p3) (by dsimp only; omega) ⟨by dsimp only; omega, by simp; omega, mem_snoc hys hae⟩ (by exact Entails.of rfl ⟨rfl, rfl, rfl, trivial⟩)
  · refine St.frz 1 _ rfl (frs_frozen _ _) (okFix_lent rfl) ?_
    (refine St.exit ?_; refine Fin.then ?_; refine St.seq ?_; refine St.regionK (fun K hK => ?_); refine Ops.move rfl rfl rfl ?_; refine Ops.assign rfl rfl rfl ?_; refine Ops.nil (hK _ _ ?_); clear hK K; refine Fin.then ?_; refine St.ret ?_)
    refine Fin.retB (ys, p1) [_] rfl (AllRes.tmp rfl AllRes.nil) rfl rfl ⟨by show (ys.length : Int) = n; omega, hys⟩
theorem goFractions : InGo Tryz.prog 15 := InGo.of Tryz.func15 rfl (by decide)
end Go.Proofs.YtdhmbgogmoaofaaGreat
namespace Go.Proofs.YtdhmbgogmoaofaaGreat
open Go.Own Go.Limbs
attribute [local irreducible] St Ops Go.Own.Fin Ok OkB OkN OkM wpA
def aw1 : List Rw := [⟨[1, 1], 4⟩, ⟨[1], 3⟩]
def aw2 : List Rw := [⟨[-1], -5⟩, ⟨[1], 3⟩]
def awX : List Fr := [ofQ (3 : Int), ofQ (1 : Int)]
end Go.Proofs.YtdhmbgogmoaofaaGreat
namespace Go.Proofs.YtdhmbgogmoaofaaGreat
open Go.Own Go.Limbs
attribute [local irreducible] St Ops Go.Own.Fin Ok OkB OkN OkM wpA
theorem okc_in {n : Int} {c : List Int} (cl : (c.length : Int) ≤ n) (h : ∀ y ∈ c, -1000 ≤ y ∧ y ≤ 1000) : okCoeffs n c = true := by
  have hc : c.any badC = false := by
    rw [List.any_eq_false]
    intro y hy
    have := h y hy
    unfold badC
    simp only [Bool.or_eq_true, decide_eq_true_eq]
    omega
  unfold okCoeffs
  rw [hc, decide_eq_true cl]
  decide
theorem valid_dice {n : Int} {rs : List Rw} (h0 : 0 ≤ n) (h1 : n ≤ 4) (hl : rs.length ≤ 64) (h : ∀ r ∈ rs, RowIn n r) : validR n rs = true := by
  unfold validR
  simp only [Bool.and_eq_true, decide_eq_true_eq, Bool.not_eq_true']
  refine ⟨⟨⟨h0, by omega⟩, by omega⟩, ?_⟩
  rw [List.any_eq_false]
  intro r hr
  obtain ⟨a1, a2, a3, a4⟩ := h r hr
  unfold badR
  rw [okc_in a1 (fun y hy => by have := a2 y hy; omega), decide_eq_false (show ¬ r.b < -4503599627370496 by omega), decide_eq_false (show ¬ 4503599627370496 < r.b by omega)]
  decide
theorem solve_ex {n : Int} {rs : List Rw} {c : List Int} (hv : validR n rs = true) (hc : okCoeffs n c = true) : ∃ O, Sol n.toNat rs c O ∧ Ok Tryz.prog 22 [intC n, rowsC rs, intsC c] (.fr (tupT [ocC O, intC 0])) := by
  obtain ⟨N, rfl, hL⟩ := lp_of hv hc
  obtain ⟨T, E, F, s, R, hs⟩ := lp_sol hL
  rw [Int.toNat_natCast]
  exact ⟨_, hs, Solve_ok N rs c hL hv hc R⟩
theorem Kt6 {m : Nat} (h : m ≤ 6) : Kt m < 1073741824 ^ 9 := by
  have : m = 0 ∨ m = 1 ∨ m = 2 ∨ m = 3 ∨ m = 4 ∨ m = 5 ∨ m = 6 := by omega
  rcases this with rfl | rfl | rfl | rfl | rfl | rfl | rfl <;> decide +kernel
theorem sol_sz {n : Nat} {rs : List Rw} {c : List Int} {O : Oc} (h : Sol n rs c O) (hl : rs.length ≤ 6) (hk : O.kind = 1) : ∃ q : Rat, O.value = ofQ q ∧ (limbs (ofQ q).num).length ≤ 9 ∧ (limbs (ofQ q).den).length ≤ 9 := by
  cases h with
  | opt D X Y val hX hv hY hw b1 b2 b3 b4 =>
    have hD := hX.den
    obtain ⟨h1, h2⟩ := mk_le val D.natAbs (by omega)
    have := Kt6 hl
    exact ⟨shq val D, rfl, limbs_length_le (by unfold shq; omega), limbs_length_le (by unfold shq; omega)⟩
  | unb => exact absurd (show (2 : Int) = 1 from hk) (by decide)
  | emp => exact absurd (show (3 : Int) = 1 from hk) (by decide)
end Go.Proofs.YtdhmbgogmoaofaaGreat
namespace Go.Proofs.YtdhmbgogmoaofaaGreat
open Go.Own Go.Limbs
theorem rFCompare_qt (q : Rat) (m : Int) (hT : Tb m) (l1 : (limbs (ofQ q).num).length ≤ 1000) (l2 : (limbs (ofQ q).den).length ≤ 1000) : Ok Tryz.prog 25 [fracC (ofQ q), twC m] (.fr (tupT [intC (cmpQ q (tw m)), intC 0])) :=
  rFCompare_q q (tw m) l1 l2 hT.len (tf_lend m)
attribute [local irreducible] St Ops Go.Own.Fin Ok OkB OkN OkM wpA tf
set_option maxHeartbeats 8000000 in
theorem FarkasDual_ok (bs : List Int) (hb : ∀ b ∈ bs, 0 ≤ b ∧ b < 256) : Ok Tryz.prog 8 [bytesC bs] (boolC true) := by
  refine Ok.enter Tryz.func8 rfl _ Tryz.ntmps8 rfl ?_
  intro S w
  have hB : Bytes (bs.take 400) := ⟨fun b h => (hb b (List.mem_of_mem_take h)).1, fun b h => (hb b (List.mem_of_mem_take h)).2, by simp; omega⟩
  have hRoll := Roll_ok bs
  generalize bs.take 400 = B0 at hB hRoll
  (refine St.seq ?_; refine St.regionK (fun K hK => ?_); refine Ops.assign rfl rfl rfl ?_; refine Ops.nil (hK _ _ ?_); clear hK K; refine Fin.then ?_; refine St.seq ?_; refine St.seq ?_; refine St.regionK (fun K hK => ?_))
  refine Ops.call goawake awake_ok rfl rfl rfl rfl ?_
  (refine Ops.inot rfl rfl rfl ?_; refine Ops.nil (hK _ _ ?_); clear hK K; refine Fin.then ?_; refine St.condF rfl ?_; refine St.skip ?_; refine Fin.then ?_; refine St.seq ?_; refine St.regionK (fun K hK => ?_); refine Ops.move rfl rfl rfl ?_)
  refine Ops.callN 0 goRoll hRoll rfl rfl rfl rfl rfl rfl ?_
  (refine Ops.assign rfl rfl rfl ?_; refine Ops.nil (hK _ _ ?_); clear hK K; refine Fin.then ?_; refine St.seq ?_; refine St.regionK (fun K hK => ?_); refine Ops.move rfl rfl rfl ?_)
  refine Ops.callB goProgram (Program_ok B0 0 hB) rfl rfl rfl rfl rfl (fun q hq => ?_)
  obtain ⟨n, rs, c, p1⟩ := q
  obtain ⟨n0, n1, rl, hrs, cl, hc⟩ := hq
  dsimp only at n0 n1 rl hrs cl hc ⊢
  have hv := valid_dice n0 n1 (by omega) hrs
  have hk := okc_in cl (fun y hy => by have := hc y hy; omega)
  have hb' : ∀ r ∈ rs, r.b.natAbs ≤ 4503599627370496 := fun r hr => by have := (hrs r hr).b1; have := (hrs r hr).b2; omega
  have hc' : ∀ y ∈ c, y.natAbs ≤ 9007199254740992 := fun y hy => by have := hc y hy; omega
  obtain ⟨O, s1, T1⟩ := solve_ex hv hk
  have M1 := Maximum_of n rs c O 0 T1
  obtain ⟨N, rfl⟩ := Int.eq_ofNat_of_zero_le n0
  rw [Int.toNat_natCast] at s1
  (refine Ops.move rfl rfl rfl ?_; refine Ops.extract rfl rfl rfl rfl ?_; refine Ops.extract rfl rfl rfl rfl ?_; refine Ops.extract rfl rfl rfl rfl ?_; refine Ops.assign rfl rfl rfl ?_; refine Ops.assign rfl rfl rfl ?_; refine Ops.assign rfl rfl rfl ?_; refine Ops.nil (hK _ _ ?_); clear hK K; refine Fin.then ?_; refine St.seq ?_; refine St.regionK (fun K hK => ?_); refine Ops.move rfl rfl rfl ?_; refine Ops.move rfl rfl rfl ?_; refine Ops.lenF rfl rfl (by with_reducible first | exact sFracs.und | exact sRows.und) (List.length_map ..) rfl ?_)
  refine Ops.callB goFractions (Fractions_ok B0 p1 rs.length (by omega) (by omega) hB) rfl rfl rfl rfl rfl (fun q hq => ?_)
  obtain ⟨ys, p2⟩ := q
  obtain ⟨hyl, hy⟩ := hq
  dsimp only at hyl hy ⊢
  have hyl : ys.length = rs.length := by omega
  have hy' : ∀ y ∈ ys, 0 ≤ y ∧ y ≤ 1000 := fun y h => by have := hy y h; omega
  have hbs := bsum_size hyl rl hb' hy
  have hT : Tb (bsum rs ys) := by unfold Tb; omega
  have hCom := Combine_tw N rs ys hv hyl hy'
  have hBnd := Bounds_tw N rs c ys (bsum rs ys) hv hyl hy' (by omega) hc' hT
  rw [decide_eq_false (Int.lt_irrefl _), Bool.not_false, Bool.and_true] at hBnd
  have hCei := Ceiling_tw N rs c ys hv hyl hy' (by omega) hc' hbs
  have hFlo := rFloor_tw (bsum rs ys) hbs
  have z1 := sol_sz s1 rl
  have hle : O.kind = 1 → covB (cols rs ys N) c = true → ∃ q : Rat, O.value = ofQ q ∧ Ok Tryz.prog 25 [fracC (ofQ q), twC (bsum rs ys)] (.fr (tupT [intC (cmpQ q (tw (bsum rs ys))), intC 0])) ∧ cmpQ q (tw (bsum rs ys)) ≤ 0 := fun k1 hcv => by
    obtain ⟨q, g1, g2⟩ := sol_tw s1 k1 hyl (fun y h => (hy y h).1) hcv
    obtain ⟨q1, f1, l1, l2⟩ := z1 k1
    rw [← f1, g1] at l1 l2
    exact ⟨q, g1, rFCompare_qt q _ hT (by omega) (by omega), cmpQ_le g2⟩
  generalize covB (cols rs ys N) c = cv at hBnd hCei hle
  generalize cols rs ys N = cs at hCom
  clear T1 s1 z1 hc hrs hb' hc' hy hy' hv hk
  (refine Ops.assign rfl rfl rfl ?_; refine Ops.nil (hK _ _ ?_); clear hK K; refine Fin.then ?_; refine St.seq ?_; refine St.regionK (fun K hK => ?_); refine Ops.move rfl rfl rfl ?_; refine Ops.move rfl rfl rfl ?_; refine Ops.move rfl rfl rfl ?_)
  refine Ops.call goMaximum M1 rfl rfl rfl rfl ?_
  (refine Ops.move rfl rfl rfl ?_; refine Ops.extract rfl rfl rfl rfl ?_; refine Ops.extract rfl rfl rfl rfl ?_; refine Ops.extract rfl rfl rfl rfl ?_; refine Ops.alloc 1 rfl rfl (by with_reducible first | exact zvFrac) rfl rfl rfl ?_; refine Ops.stWN 3 rfl rfl rfl rfl rfl (by with_reducible exact szFrac) rfl rfl ?_; refine Ops.assign rfl rfl rfl ?_; refine Ops.assign rfl rfl rfl ?_; refine Ops.nil (hK _ _ ?_); clear hK K; refine Fin.then ?_; refine St.seq ?_; refine St.regionK (fun K hK => ?_); refine Ops.move rfl rfl rfl ?_; refine Ops.move rfl rfl rfl ?_; refine Ops.move rfl rfl rfl ?_)
  refine Ops.call goCombine hCom rfl rfl rfl rfl ?_
  (refine Ops.move rfl rfl rfl ?_; refine Ops.extract rfl rfl rfl rfl ?_; refine Ops.extract rfl rfl rfl rfl ?_; refine Ops.extract rfl rfl rfl rfl ?_; refine Ops.alloc 2 rfl rfl (by with_reducible first | exact zvFrac) rfl rfl rfl ?_; refine Ops.assign rfl rfl rfl ?_; refine Ops.stWN 3 rfl rfl rfl rfl rfl (by with_reducible exact szFrac) rfl rfl ?_; refine Ops.assign rfl rfl rfl ?_; refine Ops.nil (hK _ _ ?_); clear hK K; refine Fin.then ?_; refine St.seq ?_; refine St.seq ?_; refine St.regionK (fun K hK => ?_); refine Ops.move rfl rfl rfl ?_; refine Ops.ibin ineq rfl rfl rfl rfl ?_; refine Ops.move rfl rfl rfl ?_; refine Ops.move rfl rfl rfl ?_; refine Ops.ibin ineq rfl rfl rfl rfl ?_; refine Ops.pickF rfl rfl rfl rfl ?_; refine Ops.move rfl rfl rfl ?_; refine Ops.move rfl rfl rfl ?_; refine Ops.inot rfl rfl rfl ?_; refine Ops.pickF rfl rfl rfl rfl ?_; refine Ops.move rfl rfl rfl ?_)
  refine Ops.split 60 rfl (fun h => ?_) (fun h => ?_)
  · (refine Ops.skip rfl rfl rfl ?_; refine Ops.skip rfl rfl rfl ?_; refine Ops.skip rfl rfl rfl ?_; refine Ops.skip rfl rfl rfl ?_; refine Ops.skip rfl rfl rfl ?_; refine Ops.skip rfl rfl rfl ?_; refine Ops.skip rfl rfl rfl ?_; refine Ops.pickT rfl rfl rfl rfl ?_; refine Ops.nil (hK _ _ ?_); clear hK K; refine Fin.then ?_; refine St.condT rfl ?_; refine St.seq ?_; refine St.regionK (fun K hK => ?_); refine Ops.move rfl rfl rfl ?_; refine Ops.ibin ieql rfl rfl rfl rfl ?_; refine Ops.move rfl rfl rfl ?_; refine Ops.move rfl rfl rfl ?_; refine Ops.ibin ieql rfl rfl rfl rfl ?_; refine Ops.pickT rfl rfl rfl rfl ?_; refine Ops.assign rfl rfl rfl ?_; refine Ops.nil (hK _ _ ?_); clear hK K; refine Fin.then ?_; refine St.ret ?_; refine Fin.thenRet ?_)
    refine Fin.ret [_] rfl (AllRes.tmp rfl AllRes.nil) rfl rfl
  have k1 : O.kind = 1 := by simpa using h
  (refine Ops.move rfl rfl rfl ?_; refine Ops.move rfl rfl rfl ?_; refine Ops.move rfl rfl rfl ?_; refine Ops.move rfl rfl rfl ?_; refine Ops.ldNO (n := 3) rfl rfl rfl rfl rfl (by with_reducible exact lFrac) rfl ?_)
  refine Ops.call goBounds hBnd rfl rfl rfl rfl ?_
  (refine Ops.inot rfl rfl rfl ?_; refine Ops.pickF rfl rfl rfl rfl ?_; refine Ops.nil (hK _ _ ?_); clear hK K; refine Fin.then ?_)
  cases cv with
  | false =>
    (refine St.condT rfl ?_; refine St.seq ?_; refine St.regionK (fun K hK => ?_); refine Ops.move rfl rfl rfl ?_; refine Ops.ibin ieql rfl rfl rfl rfl ?_; refine Ops.move rfl rfl rfl ?_; refine Ops.move rfl rfl rfl ?_; refine Ops.ibin ieql rfl rfl rfl rfl ?_; refine Ops.pickT rfl rfl rfl rfl ?_; refine Ops.assign rfl rfl rfl ?_; refine Ops.nil (hK _ _ ?_); clear hK K; refine Fin.then ?_; refine St.ret ?_; refine Fin.thenRet ?_)
    refine Fin.ret [_] rfl (AllRes.tmp rfl AllRes.nil) rfl rfl
  | true =>
    rw [if_pos rfl] at hCei
    obtain ⟨q, g1, hC, hq⟩ := hle k1 rfl
    rw [g1]
    (refine St.condF rfl ?_; refine St.skip ?_; refine Fin.then ?_; refine St.seq ?_; refine St.regionK (fun K hK => ?_); refine Ops.ldNO (n := 3) rfl rfl rfl rfl rfl (by with_reducible exact lFrac) rfl ?_; refine Ops.ldNO (n := 3) rfl rfl rfl rfl rfl (by with_reducible exact lFrac) rfl ?_)
    refine Ops.call gorFCompareQ hC rfl rfl rfl rfl ?_
    (refine Ops.move rfl rfl rfl ?_; refine Ops.extract rfl rfl rfl rfl ?_; refine Ops.extract rfl rfl rfl rfl ?_; refine Ops.assign rfl rfl rfl ?_; refine Ops.assign rfl rfl rfl ?_; refine Ops.nil (hK _ _ ?_); clear hK K; refine Fin.then ?_; refine St.seq ?_; refine St.regionK (fun K hK => ?_); refine Ops.move rfl rfl rfl ?_; refine Ops.move rfl rfl rfl ?_; refine Ops.move rfl rfl rfl ?_; refine Ops.move rfl rfl rfl ?_)
    refine Ops.call goCeiling hCei rfl rfl rfl rfl ?_
    (refine Ops.move rfl rfl rfl ?_; refine Ops.extract rfl rfl rfl rfl ?_; refine Ops.extract rfl rfl rfl rfl ?_; refine Ops.assign rfl rfl rfl ?_; refine Ops.assign rfl rfl rfl ?_; refine Ops.nil (hK _ _ ?_); clear hK K; refine Fin.then ?_; refine St.seq ?_; refine St.regionK (fun K hK => ?_); refine Ops.ldNO (n := 3) rfl rfl rfl rfl rfl (by with_reducible exact lFrac) rfl ?_)
    refine Ops.call gorFloor hFlo rfl rfl rfl rfl ?_
    (refine Ops.move rfl rfl rfl ?_; refine Ops.extract rfl rfl rfl rfl ?_; refine Ops.extract rfl rfl rfl rfl ?_; refine Ops.assign rfl rfl rfl ?_; refine Ops.assign rfl rfl rfl ?_; refine Ops.nil (hK _ _ ?_); clear hK K; refine Fin.then ?_; refine St.seq ?_; refine St.regionK (fun K hK => ?_); refine Ops.move rfl rfl rfl ?_; refine Ops.ibin ileq rfl rfl rfl rfl ?_; refine Ops.move rfl rfl rfl ?_)
    rw [decide_eq_true hq]
    (refine Ops.move rfl rfl rfl ?_; refine Ops.ibin ineq rfl rfl rfl rfl ?_; refine Ops.move rfl rfl rfl ?_; refine Ops.move rfl rfl rfl ?_; refine Ops.move rfl rfl rfl ?_; refine Ops.move rfl rfl rfl ?_; refine Ops.move rfl rfl rfl ?_; refine Ops.ibin ieql rfl rfl rfl rfl ?_; refine Ops.pickT rfl rfl rfl rfl ?_; refine Ops.pickF rfl rfl rfl rfl ?_; refine Ops.pickT rfl rfl rfl rfl ?_; refine Ops.assign rfl rfl rfl ?_; refine Ops.nil (hK _ _ ?_); clear hK K; refine Fin.then ?_; refine St.ret ?_)
    refine Fin.ret [_] rfl (AllRes.tmp rfl AllRes.nil) (by rw [decide_eq_true (show bsum rs ys / 12 = bsum rs ys / 12 from rfl)]; rfl) rfl
end Go.Proofs.YtdhmbgogmoaofaaGreat
namespace Go.Proofs.YtdhmbgogmoaofaaGreat
open Go.Own Go.Limbs
attribute [local irreducible] St Ops Go.Own.Fin Ok OkB OkN OkM wpA
structure Rf where
  neg : Bool
  xs : List Int
  ys : List Int
def rf0 : Rf := ⟨false, [], []⟩
abbrev rfCs (f : Rf) : List CT := [boolC f.neg, intsC f.xs, intsC f.ys]
abbrev rfsC (x : List Rf) : CT := .fr (sliceT 3 (x.map rfCs))
def okRf (f : Rf) : Bool := (decide (f.xs.length ≤ 6) && decide (f.ys.length ≤ 6)) && fvalidL f.neg f.xs f.ys
def smallB (rs : List Rw) (c : List Int) (x : List Rf) : Bool := (decide (rs.length ≤ 6) && decide (c.length ≤ 6) && decide (x.length ≤ 6)) && (rs.all (fun r => decide (r.cs.length ≤ 6)) && x.all okRf)
end Go.Proofs.YtdhmbgogmoaofaaGreat
namespace Go.Proofs.YtdhmbgogmoaofaaGreat
open Go.Own Go.Limbs
section
variable {H : Type} {enc : TypeId × Value → H} {P : Program} {w : World} {base : Nat} {spare : Nat → Bool} {held : Bool}
theorem slice_in {α : Type} {t e : TypeId} {n fuel : Nat} {cs0 : List Value} {x : DataW H × List MemPlace} (ht : P.underlying t = some (.slice e)) (hn : P.cellsOf e = n) (hn0 : 0 < n) (f : α → List CT) (hf : ∀ z, (f z).length = n) (good : α → Prop)
    (hE : ∀ m cs y, DataW.trod enc P w base spare held m e cs = some y → cs.length = n → ∃ z, cells (fun _ => True) w (f z) cs ∧ good z)
    (h : DataW.trod enc P w base spare held fuel t cs0 = some x) : ∃ (v : Value) (zs : List α), cs0 = [v] ∧ zs.length ≤ 9223372036854775807 ∧ (∀ z ∈ zs, good z) ∧ (CT.fr (sliceT n (zs.map f))).p (fun _ => True) w v := by
  rcases DataW.trod_slice ht h with ⟨h0, _⟩ | ⟨a, len, cap, elems, rest, m, _, rfl, rfl, _, hl, hm, hlen, hel, _⟩
  · exact ⟨_, [], h0, Nat.zero_le _, (fun z hz => nomatch hz), nil_is n _ w⟩
  rw [hn] at hel
  have key : ∀ k, k ≤ len → ∃ (zs : List α) (vs : List Value), zs.length = k ∧ (∀ z ∈ zs, good z) ∧ cells (fun _ => True) w (zs.map f).flatten vs ∧ vs.length = k * n ∧ ∀ i u, vs[i]? = some u → w.cell? (a.add i) = some u := by
    intro k
    induction k with
    | zero => intro _; exact ⟨[], [], rfl, (fun z hz => nomatch hz), trivial, (Nat.zero_mul n).symm, fun i u hu => by simp at hu⟩
    | succ k ih =>
      intro hk
      obtain ⟨zs, vs, e1, e2, e3, e4, e5⟩ := ih (by omega)
      have h1 := hel k (by omega)
      rw [List.getElem?_eq_getElem (show k < elems.length by omega), Option.bind_eq_some_iff] at h1
      obtain ⟨cs, h2, h3⟩ := h1
      obtain ⟨_, h4, h5⟩ := World.cells?_some h2
      obtain ⟨z, h6, h7⟩ := hE _ _ _ h3 h4
      refine ⟨zs ++ [z], vs ++ cs, by simp [e1], ?_, ?_, by rw [List.length_append, e4, h4, Nat.succ_mul], ?_⟩
      · intro y hy
        rcases List.mem_append.1 hy with hy | hy
        · exact e2 y hy
        · rw [List.mem_singleton.1 hy]; exact h7
      · rw [List.map_append, List.flatten_append]
        refine cells.append e3 ?_
        simpa using h6
      · intro i u hu
        rcases Nat.lt_or_ge i (k * n) with hi | hi
        · rw [List.getElem?_append_left (by omega)] at hu
          exact e5 i u hu
        · rw [List.getElem?_append_right (by omega), e4] at hu
          have hlt : i - k * n < n := by
            have := (List.getElem?_eq_some_iff.1 hu).1
            omega
          have := h5 (i - k * n) hlt
          rw [Addr.add_add, show k * n + (i - k * n) = i by omega] at this
          rw [this, hu]
  obtain ⟨zs, vs, e1, e2, e3, e4, e5⟩ := key len (Nat.le_refl _)
  have hmx : maxLen = 9223372036854775807 := by decide
  refine ⟨_, zs, rfl, by omega, e2, some a, cap, by rw [List.length_map, e1], by rw [List.length_map, e1]; exact hl, hm, fun y hy => by obtain ⟨z, _, rfl⟩ := List.mem_map.1 hy; exact hf z, fun hne => ?_⟩
  have hpos : 0 < len := by
    rcases Nat.eq_zero_or_pos len with h0 | h0
    · rw [h0] at e1; rw [List.length_eq_zero_iff.1 e1] at hne; exact absurd rfl hne
    · exact h0
  have hvl : 0 < vs.length := by rw [e4]; exact Nat.mul_pos hpos hn0
  have h0 := e5 0 _ (List.getElem?_eq_getElem hvl)
  obtain ⟨b, o, sp⟩ := a
  have hsp : sp = none ∧ b < w.heap.size := by
    simp only [Addr.add, if_true, World.cell?] at h0
    cases e : w.heap[b]? with
    | none => rw [e] at h0; cases h0
    | some ob =>
      rw [e] at h0
      cases ob with
      | cells c t r =>
        refine ⟨?_, heap_lt e⟩
        cases sp with
        | none => rfl
        | some q => simp at h0
      | _ => cases h0
  obtain ⟨rfl, hb⟩ := hsp
  refine ⟨b, o, rfl, trivial, hb, vs, e3, fun i u hu => ?_⟩
  have h1 := e5 i u hu
  have h3 : (⟨b, o, none⟩ : Addr).add i = ⟨b, o + i, none⟩ := by
    unfold Addr.add
    split
    · rename_i h; subst h; rfl
    · rfl
  rw [h3] at h1
  exact h1
theorem bytes_in {t e : TypeId} {fuel : Nat} {cs0 : List Value} {x : DataW H × List MemPlace} (ht : P.underlying t = some (.slice e)) (he : P.underlying e = some (.int .u8)) (hn : P.cellsOf e = 1)
    (h : DataW.trod enc P w base spare held fuel t cs0 = some x) : ∃ (v : Value) (zs : List Int), cs0 = [v] ∧ (∀ z ∈ zs, 0 ≤ z ∧ z < 256) ∧ (bytesC zs).p (fun _ => True) w v := by
  obtain ⟨v, zs, h1, _, h2, h3⟩ := slice_in ht hn (by decide) (fun z : Int => [CT.ex (Value.int .u8 z)]) (fun _ => rfl) (fun z => 0 ≤ z ∧ z < 256) (fun m cs y hy _ => by
    obtain ⟨z, rfl, _, hw⟩ := DataW.trod_int he hy
    exact ⟨z, ⟨rfl, trivial⟩, by have := bounds_u8 hw; omega⟩) h
  exact ⟨v, zs, h1, h2, h3⟩
end
end Go.Proofs.YtdhmbgogmoaofaaGreat
namespace Go.Proofs.YtdhmbgogmoaofaaGreat.farkasDual
open Go.ChangeShapes Go.WideShapes Go.ChangeAt Go.RowKit
open Go.ChangeMaps (open_string shut_string)
set_option linter.unusedVariables false
theorem own : ownKnob Tryz.prog.godebug = none := by kernel_rfl
theorem laidOut : laidOutB Tryz.prog = true := by kernel_rfl
set_option maxRecDepth 100000 in
theorem lifted (os : Os) (started : os.Started) (H : Type) (enc : TypeId × Value → H) :
    ReturnsInHanded {} Tryz.checked os 8 .any (Rows.farkasDualSpec.pre6 enc Tryz.prog Tryz.f8 Rows.farkasDualRow.domain false) (Rows.farkasDualSpec.post enc Tryz.prog Tryz.f8 false true false false) := by
  refine returnsInHanded_of_change (C := Tryz.checked) own started (by kernel_rfl) Tryz.func8
    (ChangeSpec.witness6 (enc := enc) (C := Tryz.checked) false ⟨#[], #[.slice none 0 0], []⟩ 8 (by kernel_rfl) (by kernel_rfl) (by kernel_rfl) (by kernel_rfl)) ?_
  intro W base args ds gs before hval0 hW hcnd _
  have hval : ∀ (j : Nat) t v, Tryz.f8.params[j]? = some t → args[j]? = some v → Value.okWide Tryz.prog W .any base t v := hval0
  have hW' := hW
  obtain ⟨p, q, hA0, hV, rfl, hfz, hnd⟩ := hW
  have hA : DataW.TrodAll enc Tryz.prog W 0 (fun _ => true) true Tryz.f8.params.toList args.toList ds p := hA0
  rw [Tryz.params8] at hA hval
  obtain ⟨v0, vs0, d0, ds0, p0, q0, hargs0, rfl, rfl, h0, r0⟩ := trodAll_cons hA
  obtain ⟨rfl, rfl, rfl⟩ := trodAll_nil r0
  obtain rfl : args = #[v0] := by cases args; simp_all
  obtain ⟨rfl, rfl⟩ := trodVars_none hV
  obtain ⟨a0, len0, cap0, rfl⟩ := okWide_slice Tryz.underlying22 (hval 0 22 v0 rfl rfl)
  have k0 := h0
  have lt0 : ∀ x ∈ p0, x.block < W.heap.size := by obtain ⟨m, hm⟩ := k0; exact DataW.trod_lt m _ _ _ hm
  obtain ⟨f0, t0⟩ := h0
  obtain ⟨u0, z0, e0, c0, w0⟩ := bytes_in Tryz.underlying22 Tryz.underlying5 (by kernel_rfl) t0
  have e0 : Value.slice a0 len0 cap0 = u0 := by simpa [Value.cells] using e0
  subst e0
  clear hA0 hval0
  refine (((FarkasDual_ok z0 c0) (fun _ => True) W [.slice a0 len0 cap0] (fun _ _ => trivial) ⟨w0, trivial⟩)).mono fun e W' ⟨v, he, hv, bel⟩ => ?_
  have hv : v = .bool true := hv
  subst hv he
  exact ⟨_, rfl, _, _, _, [], _, [], hW', trodAll_mk1 (shut_bool Tryz.underlying4 _), (trodAll_cons_mk (Below.trod laidOut (by kernel_rfl) (of_decide_eq_true (by kernel_rfl)) k0 bel lt0) trodAll_mk0), rfl, bel.frame _, fun h => by cases h⟩
theorem over : Rows.farkasDualRow.holds Tryz.pinned (OpenSpec.ofChange Rows.farkasDualSpec) :=
  OpenClaim.holds_of_wide 8 Tryz.f8 rfl rfl rfl rfl rfl rfl rfl ⟨rfl, rfl, rfl, rfl, rfl⟩ rfl rfl rfl rfl rfl (by kernel_rfl) Tryz.func8 (by kernel_rfl)
    (of_decide_eq_true (by kernel_rfl)) (by unfold Func.isWrapper; first | (rw [if_pos (by decide +kernel)]; kernel_rfl) | (rw [if_neg (by decide +kernel)]; exact ⟨rfl, rfl⟩))
    (fun os started H enc _ => lifted os started H enc)
theorem proved : Rows.FarkasDualSaid := over
#print axioms proved
end Go.Proofs.YtdhmbgogmoaofaaGreat.farkasDual
