/-
  Walks: cmp.Compare, natural.Compare, natural.Valid.
-/
import Derived.Test.YtgpkpmhdfcopgaaN3
import Derived.Test.YtgpkpmhdfcopgaaM3
namespace Go.Proofs.Ytgpkpmhdfcopgaa
open Go.Own Go.Limbs
attribute [local irreducible] St Ops Go.Own.Fin Ok

theorem isNaN_ok (x : Int) : Ok Try.prog 93 [intC x] (boolC false) := by
  refine Ok.enter Try.func93 rfl _ Try.ntmps93 rfl ?_
  intro S w
  (refine St.seq ?_; refine St.regionK (fun K hK => ?_); refine Ops.assign rfl rfl rfl ?_; refine Ops.nil (hK _ _ ?_); refine Fin.then ?_; refine St.seq ?_; refine St.regionK (fun K hK => ?_); refine Ops.move rfl rfl rfl ?_; refine Ops.move rfl rfl rfl ?_; refine Ops.ibin ineq rfl rfl rfl rfl ?_; refine Ops.assign rfl rfl rfl ?_; refine Ops.nil (hK _ _ ?_); refine Fin.then ?_; refine St.ret ?_)
  have : decide (x ≠ x) = false := by simp
  rw [this]
  refine Fin.ret [_] rfl (AllRes.tmp rfl AllRes.nil) rfl rfl
theorem goisNaN : InGo Try.prog 93 := InGo.of Try.func93 (by kernel_rfl) (by kernel_rfl)

theorem cmp_ok (x y : Int) : Ok Try.prog 90 [intC x, intC y] (intC (cmpI x y)) := by
  refine Ok.enter Try.func90 rfl _ Try.ntmps90 rfl ?_
  intro S w
  (refine St.seq ?_; refine St.regionK (fun K hK => ?_); refine Ops.assign rfl rfl rfl ?_; refine Ops.nil (hK _ _ ?_); refine Fin.then ?_; refine St.seq ?_; refine St.regionK (fun K hK => ?_); refine Ops.move rfl rfl rfl ?_)
  refine Ops.call goisNaN (isNaN_ok x) rfl rfl rfl rfl ?_
  (refine Ops.assign rfl rfl rfl ?_; refine Ops.nil (hK _ _ ?_); refine Fin.then ?_; refine St.seq ?_; refine St.regionK (fun K hK => ?_); refine Ops.move rfl rfl rfl ?_)
  refine Ops.call goisNaN (isNaN_ok y) rfl rfl rfl rfl ?_
  (refine Ops.assign rfl rfl rfl ?_; refine Ops.nil (hK _ _ ?_); refine Fin.then ?_; refine St.seq ?_; refine St.seq ?_; refine St.regionK (fun K hK => ?_); refine Ops.move rfl rfl rfl ?_; refine Ops.nil (hK _ _ ?_); refine Fin.then ?_; refine St.condF rfl ?_; refine St.skip ?_; refine Fin.then ?_; refine St.seq ?_; refine St.seq ?_; refine St.regionK (fun K hK => ?_); refine Ops.move rfl rfl rfl ?_; refine Ops.nil (hK _ _ ?_); refine Fin.then ?_; refine St.condF rfl ?_; refine St.skip ?_; refine Fin.then ?_; refine St.seq ?_; refine St.seq ?_; refine St.regionK (fun K hK => ?_); refine Ops.move rfl rfl rfl ?_; refine Ops.move rfl rfl rfl ?_; refine Ops.ibin ilss rfl rfl rfl rfl ?_; refine Ops.nil (hK _ _ ?_); refine Fin.then ?_)
  refine St.condP rfl (fun h => ?_) (fun h => ?_)
  · (refine St.seq ?_; refine St.regionK (fun K hK => ?_); refine Ops.assign rfl rfl rfl ?_; refine Ops.nil (hK _ _ ?_); refine Fin.then ?_; refine St.ret ?_; refine Fin.thenRet ?_)
    rw [cmpI_eq, if_pos h]
    refine Fin.ret [_] rfl (AllRes.tmp rfl AllRes.nil) rfl rfl
  · (refine St.skip ?_; refine Fin.then ?_; refine St.seq ?_; refine St.seq ?_; refine St.regionK (fun K hK => ?_); refine Ops.move rfl rfl rfl ?_; refine Ops.move rfl rfl rfl ?_; refine Ops.ibin igtr rfl rfl rfl rfl ?_; refine Ops.nil (hK _ _ ?_); refine Fin.then ?_)
    refine St.condP rfl (fun h2 => ?_) (fun h2 => ?_)
    · (refine St.seq ?_; refine St.regionK (fun K hK => ?_); refine Ops.assign rfl rfl rfl ?_; refine Ops.nil (hK _ _ ?_); refine Fin.then ?_; refine St.ret ?_; refine Fin.thenRet ?_)
      rw [cmpI_eq, if_neg h, if_pos h2]
      refine Fin.ret [_] rfl (AllRes.tmp rfl AllRes.nil) rfl rfl
    · (refine St.skip ?_; refine Fin.then ?_; refine St.seq ?_; refine St.regionK (fun K hK => ?_); refine Ops.assign rfl rfl rfl ?_; refine Ops.nil (hK _ _ ?_); refine Fin.then ?_; refine St.ret ?_)
      rw [cmpI_eq, if_neg h, if_neg h2]
      refine Fin.ret [_] rfl (AllRes.tmp rfl AllRes.nil) rfl rfl
theorem gocmp : InGo Try.prog 90 := InGo.of Try.func90 (by kernel_rfl) (by kernel_rfl)

set_option maxHeartbeats 2000000 in
theorem Compare_ok (a b : Nat) (ha : (limbs a).length < 4611686018427387904) (hb : (limbs b).length < 4611686018427387904) : Ok Try.prog 74 [natC a, natC b] (intC (cmpI a b)) := by
  refine Ok.enter Try.func74 rfl _ Try.ntmps74 rfl ?_
  intro S w
  (refine St.seq ?_; refine St.regionK (fun K hK => ?_); refine Ops.assign rfl rfl rfl ?_; refine Ops.nil (hK _ _ ?_); refine Fin.then ?_; refine St.seq ?_; refine St.seq ?_; refine St.regionK (fun K hK => ?_); refine Ops.move rfl rfl rfl ?_; refine Ops.lenF rfl rfl (by with_reducible first | exact sNat.und | exact sInts.und) (List.length_map ..) rfl ?_; refine Ops.move rfl rfl rfl ?_; refine Ops.lenF rfl rfl (by with_reducible first | exact sNat.und | exact sInts.und) (List.length_map ..) rfl ?_)
  refine Ops.call gocmp (cmp_ok _ _) rfl rfl rfl rfl ?_
  (refine Ops.assign rfl rfl rfl ?_; refine Ops.nil (hK _ _ ?_); refine Fin.then ?_; refine St.seq ?_; refine St.regionK (fun K hK => ?_); refine Ops.move rfl rfl rfl ?_; refine Ops.ibin ineq rfl rfl rfl rfl ?_; refine Ops.nil (hK _ _ ?_); refine Fin.then ?_)
  refine St.condP rfl (fun h => ?_) (fun h => ?_)
  · (refine St.seq ?_; refine St.regionK (fun K hK => ?_); refine Ops.move rfl rfl rfl ?_; refine Ops.assign rfl rfl rfl ?_; refine Ops.nil (hK _ _ ?_); refine Fin.then ?_; refine St.ret ?_; refine Fin.thenRet ?_)
    have e : cmpI ((limbs a).length : Int) ((limbs b).length : Int) = cmpI (a : Int) (b : Int) := by
      rcases Nat.lt_trichotomy (limbs a).length (limbs b).length with h1 | h1 | h1
      · have := lt_of_len h1; rw [cmpI_eq, cmpI_eq, if_pos (by omega), if_pos (by omega)]
      · rw [h1] at h; simp [cmpI] at h
      · have := lt_of_len h1; rw [cmpI_eq, cmpI_eq, if_neg (by omega), if_pos (by omega), if_neg (by omega), if_pos (by omega)]
    rw [e]
    refine Fin.ret [_] rfl (AllRes.tmp rfl AllRes.nil) rfl rfl
  · have hl : (limbs a).length = (limbs b).length := by
      simp only [ne_eq, Classical.not_not] at h
      unfold cmpI at h
      split at h
      · cases h
      · split at h
        · cases h
        · omega
    clear h
    (refine St.skip ?_; refine Fin.then ?_; refine St.seq ?_; refine St.seq ?_; refine St.regionK (fun K hK => ?_); refine Ops.move rfl rfl rfl ?_; refine Ops.lenF rfl rfl (by with_reducible first | exact sNat.und | exact sInts.und) (List.length_map ..) rfl ?_; refine Ops.ibin (isub (by omega) (by omega)) rfl rfl rfl rfl ?_; refine Ops.assign rfl rfl rfl ?_; refine Ops.nil (hK _ _ ?_); refine Fin.then ?_; refine St.block ?_)
    refine St.loop (α := Nat) (fun k => k ≤ (limbs a).length ∧ pre (limbs a) k - pre (limbs b) k = (a : Int) - b)
      (fun k => [(0, .ct (natC a)), (1, .ct (natC b)), (6, .ct (intC ((k : Int) - 1)))]) (fun _ => []) (fun k => k) (limbs a).length ⟨Nat.le_refl _, ?_⟩ (by exact Entails.of rfl ⟨rfl, rfl, rfl, trivial⟩) ?_
    · have e1 := val_eq_pre a
      have e2 := val_eq_pre b
      rw [← hl] at e2; rw [e1, e2]
    intro k ⟨hk, hv⟩
    dsimp only
    (refine St.seq ?_; refine St.seq ?_; refine St.regionK (fun K hK => ?_); refine Ops.move rfl rfl rfl ?_; refine Ops.ibin igeq rfl rfl rfl rfl ?_; refine Ops.nil (hK _ _ ?_); refine Fin.then ?_)
    refine St.condP rfl (fun h => ?_) (fun h => ?_)
    · obtain ⟨q, rfl⟩ : ∃ q, k = q + 1 := ⟨k - 1, by omega⟩
      have e1 : (((q + 1 : Nat) : Int) - 1) = (q : Int) := by omega
      have e2 : (q : Int).toNat = q := Int.toNat_natCast q
      rw [e1]
      (refine St.skip ?_; refine Fin.then ?_; refine St.seq ?_; refine St.block ?_; refine St.seq ?_)
      refine St.drawK (by with_reducible exact mixed) 9 (.p 0 (.p 1 (.p 2 (.p 4 (.p 5 (.p 6 (.f 3 (.f 7 (.p 8 .done))))))))) (by kernel_rfl) (fun K hK => ?_)
      (refine Ops.move rfl rfl rfl ?_; refine Ops.move rfl rfl rfl ?_; refine Ops.idxF rfl rfl rfl (by with_reducible first | exact sNat | exact sInts) (by omega) (ints_at (by omega) (by omega)) rfl ?_; refine Ops.move rfl rfl rfl ?_; refine Ops.move rfl rfl rfl ?_; refine Ops.idxF rfl rfl rfl (by with_reducible first | exact sNat | exact sInts) (by omega) (ints_at (by omega) (by omega)) rfl ?_; refine Ops.ld1F rfl rfl rfl (by with_reducible first | exact lInt | exact lNat | exact lBool | exact lInts) rfl ?_; refine Ops.ld1F rfl rfl rfl (by with_reducible first | exact lInt | exact lNat | exact lBool | exact lInts) rfl ?_; refine Ops.ibin ineq rfl rfl rfl rfl ?_; refine Ops.nil (hK _ _ ?_); refine Fin.then ?_)
      refine St.condP rfl (fun h2 => ?_) (fun h2 => ?_)
      · (refine St.seq ?_)
        refine St.drawK (by with_reducible exact mixed) 10 (.p 0 (.p 1 (.p 2 (.p 4 (.p 5 (.p 6 (.f 3 (.f 7 (.m 8 (.p 9 .done)))))))))) (by kernel_rfl) (fun K hK => ?_)
        (refine Ops.move rfl rfl rfl ?_; refine Ops.move rfl rfl rfl ?_; refine Ops.idxF rfl rfl rfl (by with_reducible first | exact sNat | exact sInts) (by omega) (ints_at (by omega) (by omega)) rfl ?_; refine Ops.move rfl rfl rfl ?_; refine Ops.move rfl rfl rfl ?_; refine Ops.idxF rfl rfl rfl (by with_reducible first | exact sNat | exact sInts) (by omega) (ints_at (by omega) (by omega)) rfl ?_; refine Ops.ld1F rfl rfl rfl (by with_reducible first | exact lInt | exact lNat | exact lBool | exact lInts) rfl ?_; refine Ops.ld1F rfl rfl rfl (by with_reducible first | exact lInt | exact lNat | exact lBool | exact lInts) rfl ?_)
        refine Ops.call gocmp (cmp_ok _ _) rfl rfl rfl rfl ?_
        rw [e2] at h2 ⊢
        have e : cmpI ((limbs a).getD q 0) ((limbs b).getD q 0) = cmpI (a : Int) (b : Int) := by
          rcases Int.lt_or_gt_of_ne h2 with h3 | h3
          · have := pre_decides (limbs_ok a) (limbs_ok b) h3
            rw [cmpI_eq, cmpI_eq, if_pos h3, if_pos (by omega)]
          · have := pre_decides (limbs_ok b) (limbs_ok a) h3
            rw [cmpI_eq, cmpI_eq, if_neg (by omega), if_pos h3, if_neg (by omega), if_pos (by omega)]
        rw [e]
        (refine Ops.assign rfl rfl rfl ?_; refine Ops.nil (hK _ _ ?_); refine Fin.then ?_; refine St.ret ?_; refine Fin.blockRet ?_; refine Fin.thenRet ?_; refine Fin.thenRet ?_; refine Fin.blockRet ?_; refine Fin.thenRet ?_)
        refine Fin.ret [_] rfl (AllRes.tmp rfl AllRes.nil) rfl rfl
      · rw [e2] at h2
        (refine St.skip ?_; refine Fin.then ?_; refine St.regionK (fun K hK => ?_); refine Ops.move rfl rfl rfl ?_; refine Ops.ibin (isub (by omega) (by omega)) rfl rfl rfl rfl ?_; refine Ops.assign rfl rfl rfl ?_; refine Ops.nil (hK _ _ ?_); refine Fin.thenN ?_)
        refine Fin.next q (by omega) ⟨by omega, ?_⟩ (by exact Entails.of rfl ⟨rfl, rfl, rfl, trivial⟩)
        rw [pre_succ, pre_succ] at hv
        have : (limbs a).getD q 0 = (limbs b).getD q 0 := Classical.not_not.1 h2
        rw [this] at hv; omega
    · (refine St.exit ?_; refine Fin.then ?_; refine St.seq ?_; refine St.regionK (fun K hK => ?_); refine Ops.assign rfl rfl rfl ?_; refine Ops.nil (hK _ _ ?_); refine Fin.then ?_; refine St.ret ?_)
      have hk0 : k = 0 := by omega
      subst hk0
      rw [pre_zero, pre_zero] at hv
      rw [cmpI_eq, if_neg (by omega), if_neg (by omega)]
      refine Fin.ret [_] rfl (AllRes.tmp rfl AllRes.nil) rfl rfl
theorem goCompare : InGo Try.prog 74 := InGo.of Try.func74 (by kernel_rfl) (by kernel_rfl)

end Go.Proofs.Ytgpkpmhdfcopgaa
