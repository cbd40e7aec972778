/-
  Walk: routescopelaw35.awake.
-/
import Derived.Test.YtgpkpmhdfcopgaaE1
import Derived.Test.YtgpkpmhdfcopgaaD2
namespace Go.Proofs.Ytgpkpmhdfcopgaa
open Go.Own Go.Limbs
attribute [local irreducible] St Ops Go.Own.Fin Ok OkB OkN wpA tf

/-- The rows of the example. -/
def aw1 : List Rw := [⟨[1, 1], 4⟩, ⟨[1], 3⟩]
def aw2 : List Rw := [⟨[1], 3⟩, ⟨[-1], -5⟩]
def awY : List Int := [12, 12]
theorem awY_in : ∀ y ∈ awY, 0 ≤ y ∧ y ≤ 1000 := by decide

theorem goawake : InGo Try.prog 4 := InGo.of Try.func4 rfl (by decide)
set_option maxHeartbeats 4000000 in
theorem awake_ok : Ok Try.prog 4 [] (boolC true) := by
  have hC := Ceiling_tw 2 aw1 [2, 1] awY (by decide) rfl awY_in (by decide) (by decide) (by decide)
  have hB7 := Bounds_tw 2 aw1 [2, 1] awY 84 (by decide) rfl awY_in (by decide) (by decide) (by unfold Tb; decide)
  have hB6 := Bounds_tw 2 aw1 [2, 1] awY 72 (by decide) rfl awY_in (by decide) (by decide) (by unfold Tb; decide)
  have hR := Refutes_tw 1 aw2 awY (by decide) rfl awY_in
  have hP := Prune_tw 2 aw1 awY (by decide) rfl awY_in
  rw [show covB (cols aw1 awY 2) [2, 1] = true by decide] at hC hB7 hB6
  rw [show (if true = true then bsum aw1 awY / 12 else 0) = 7 by decide] at hC
  rw [show (true && !decide ((84 : Int) < bsum aw1 awY)) = true by decide] at hB7
  rw [show (true && !decide ((72 : Int) < bsum aw1 awY)) = false by decide] at hB6
  rw [show (decide (bsum aw2 awY < 0) && covB (cols aw2 awY 1) []) = true by decide] at hR
  rw [show pruned awY awY.length = [0, 1] by decide] at hP
  have hE := Equal_refl (tf 24) (Nat.le_trans (Tb.sz (by unfold Tb; decide)) (by decide)) (tf_lend 24)
  have w1 : Ok Try.prog 8 [intC 1] (twC 12) := lwhole_ok 1 (by decide) (by decide)
  have w2 : Ok Try.prog 8 [intC 2] (twC 24) := lwhole_ok 2 (by decide) (by decide)
  have w6 : Ok Try.prog 8 [intC 6] (twC 72) := lwhole_ok 6 (by decide) (by decide)
  have w7 : Ok Try.prog 8 [intC 7] (twC 84) := lwhole_ok 7 (by decide) (by decide)
  refine Ok.enter Try.func4 rfl _ Try.ntmps4 rfl ?_
  intro S w
  (refine St.seq ?_; refine St.regionK (fun K hK => ?_); refine Ops.assign rfl rfl rfl ?_; refine Ops.nil (hK _ _ ?_); clear hK K; refine Fin.then ?_; refine St.seq ?_; refine St.regionK (fun K hK => ?_))
  refine Ops.lit (m := 2) (cs := [intC 1, intC 1]) rfl rfl (by with_reducible exact sInts) (.one rfl rfl rfl rfl (.one rfl rfl rfl rfl .nil)) (by decide) rfl ?_
  refine Ops.build rfl (by with_reducible exact bRow) rfl (.one rfl rfl rfl rfl (.one rfl rfl rfl rfl .nil)) rfl ?_
  refine Ops.lit1 rfl rfl (by with_reducible exact sInts) rfl rfl rfl ?_
  refine Ops.build rfl (by with_reducible exact bRow) rfl (.one rfl rfl rfl rfl (.one rfl rfl rfl rfl .nil)) rfl ?_
  refine Ops.lit (m := 2) (n := 2) (cs := rwCs ⟨[1, 1], 4⟩ ++ rwCs ⟨[1], 3⟩) rfl rfl (by with_reducible exact sRows) (.agg rfl rfl rfl rfl (.agg rfl rfl rfl rfl .nil)) (by decide) rfl ?_
  (refine Ops.assign rfl rfl rfl ?_; refine Ops.nil (hK _ _ ?_); clear hK K; refine Fin.then ?_; refine St.seq ?_; refine St.regionK (fun K hK => ?_))
  refine Ops.call gowhole w1 rfl rfl rfl rfl ?_
  refine Ops.call gowhole w1 rfl rfl rfl rfl ?_
  refine Ops.lit (m := 2) (n := 3) (cs := frCs (tf 12) ++ frCs (tf 12)) rfl rfl (by with_reducible exact sFracs) (.agg rfl rfl rfl rfl (.agg rfl rfl rfl rfl .nil)) (by decide) rfl ?_
  refine Ops.assign rfl rfl rfl ?_
  refine Ops.nil (hK _ _ ?_)
  clear hK K
  refine Fin.keep [(1, .ct (rowsC aw1)), (2, .ct (twsC awY))] ⟨rfl, rfl, trivial⟩ ?_
  (refine Fin.then ?_; refine St.seq ?_; refine St.regionK (fun K hK => ?_); refine Ops.move rfl rfl rfl ?_)
  refine Ops.lit (m := 2) (cs := [intC 2, intC 1]) rfl rfl (by with_reducible exact sInts) (.one rfl rfl rfl rfl (.one rfl rfl rfl rfl .nil)) (by decide) rfl ?_
  (refine Ops.move rfl rfl rfl ?_)
  refine Ops.call goCeiling hC rfl rfl rfl rfl ?_
  (refine Ops.move rfl rfl rfl ?_; refine Ops.extract rfl rfl rfl rfl ?_; refine Ops.extract rfl rfl rfl rfl ?_; refine Ops.assign rfl rfl rfl ?_; refine Ops.assign rfl rfl rfl ?_; refine Ops.nil (hK _ _ ?_); clear hK K; refine Fin.then ?_; refine St.seq ?_; refine St.regionK (fun K hK => ?_); refine Ops.move rfl rfl rfl ?_)
  refine Ops.lit (m := 2) (cs := [intC 2, intC 1]) rfl rfl (by with_reducible exact sInts) (.one rfl rfl rfl rfl (.one rfl rfl rfl rfl .nil)) (by decide) rfl ?_
  (refine Ops.move rfl rfl rfl ?_)
  refine Ops.call gowhole w7 rfl rfl rfl rfl ?_
  refine Ops.call goBounds hB7 rfl rfl rfl rfl ?_
  (refine Ops.move rfl rfl rfl ?_; refine Ops.move rfl rfl rfl ?_)
  refine Ops.lit (m := 2) (cs := [intC 2, intC 1]) rfl rfl (by with_reducible exact sInts) (.one rfl rfl rfl rfl (.one rfl rfl rfl rfl .nil)) (by decide) rfl ?_
  (refine Ops.move rfl rfl rfl ?_)
  refine Ops.call gowhole w6 rfl rfl rfl rfl ?_
  refine Ops.call goBounds hB6 rfl rfl rfl rfl ?_
  (refine Ops.inot rfl rfl rfl ?_; refine Ops.pickT rfl rfl rfl rfl ?_; refine Ops.move rfl rfl rfl ?_; refine Ops.move rfl rfl rfl ?_; refine Ops.pickT rfl rfl rfl rfl ?_; refine Ops.move rfl rfl rfl ?_; refine Ops.move rfl rfl rfl ?_; refine Ops.ibin ieql rfl rfl rfl rfl ?_; refine Ops.pickT rfl rfl rfl rfl ?_; refine Ops.move rfl rfl rfl ?_)
  refine Ops.lit1 rfl rfl (by with_reducible exact sInts) rfl rfl rfl ?_
  refine Ops.build rfl (by with_reducible exact bRow) rfl (.one rfl rfl rfl rfl (.one rfl rfl rfl rfl .nil)) rfl ?_
  refine Ops.lit1 rfl rfl (by with_reducible exact sInts) rfl rfl rfl ?_
  refine Ops.build rfl (by with_reducible exact bRow) rfl (.one rfl rfl rfl rfl (.one rfl rfl rfl rfl .nil)) rfl ?_
  refine Ops.lit (m := 2) (n := 2) (cs := rwCs ⟨[1], 3⟩ ++ rwCs ⟨[-1], -5⟩) rfl rfl (by with_reducible exact sRows) (.agg rfl rfl rfl rfl (.agg rfl rfl rfl rfl .nil)) (by decide) rfl ?_
  (refine Ops.move rfl rfl rfl ?_)
  refine Ops.call goRefutes hR rfl rfl rfl rfl ?_
  (refine Ops.pickT rfl rfl rfl rfl ?_; refine Ops.move rfl rfl rfl ?_)
  refine Ops.call gowhole w2 rfl rfl rfl rfl ?_
  refine Ops.call gowhole w2 rfl rfl rfl rfl ?_
  refine Ops.call goEqual hE rfl rfl rfl rfl ?_
  (refine Ops.pickT rfl rfl rfl rfl ?_; refine Ops.move rfl rfl rfl ?_; refine Ops.move rfl rfl rfl ?_; refine Ops.move rfl rfl rfl ?_)
  refine Ops.call goPrune hP rfl rfl rfl rfl ?_
  (refine Ops.lenF rfl rfl (by with_reducible first | exact sNat.und | exact sInts.und) (List.length_map ..) rfl ?_; refine Ops.ibin ieql rfl rfl rfl rfl ?_; refine Ops.pickT rfl rfl rfl rfl ?_; refine Ops.assign rfl rfl rfl ?_; refine Ops.nil (hK _ _ ?_); clear hK K; refine Fin.then ?_; refine St.ret ?_)
  refine Fin.ret [_] rfl (AllRes.tmp rfl AllRes.nil) rfl rfl
end Go.Proofs.Ytgpkpmhdfcopgaa
