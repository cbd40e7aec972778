/-
  Walks: versions.Compare, valid, Apply, Invert, Join, Same.
-/
import Derived.Test.YtkeoejfbbmdloaaV8
namespace Go.Proofs.Ytkeoejfbbmdloaa
open Go.Own
attribute [local irreducible] St Ops Go.Own.Fin Ok OkB OkN OkT OkL OkF

theorem goVCmp : InGo Try.prog 9 := InGo.of Try.func9 rfl (by decide)
set_option maxHeartbeats 4000000 in
theorem VCmp_ok (a b : List Cl) (ha : a.length ≤ 12) (hb : b.length ≤ 12) (sa : srt a = a) (sb : srt b = b) (ca : Asc a) (cb : Asc b) : Ok Try.prog 9 [atC a, atC b] (dfC (wo a b) (wo b a)) := by
  have hA := sorted_ok a ha (by rw [sa]; exact ca)
  have hB := sorted_ok b hb (by rw [sb]; exact cb)
  rw [sa] at hA
  rw [sb] at hB
  refine Ok.enter Try.func9 rfl _ Try.ntmps9 rfl ?_
  intro S w
  (refine St.seq ?_; refine St.regionK (fun K hK => ?_); refine Ops.boxN 0 rfl rfl rfl rfl rfl rfl rfl ?_; refine Ops.boxN 1 rfl rfl rfl rfl rfl rfl rfl ?_; refine Ops.alloc 2 rfl rfl (by with_reducible exact zvDiff) rfl rfl rfl ?_; refine Ops.nil (hK _ _ ?_); clear hK K; refine Fin.then ?_; refine St.seq ?_)
  refine St.drawK (by with_reducible exact mixed) 8 (.p 0 (.p 3 (.f 1 (.f 4 (.m 2 (.m 5 (.p 6 (.p 7 .done)))))))) (by kernel_rfl) (fun K hK => ?_)
  (refine Ops.fldO rfl rfl rfl (by with_reducible first | exact fK0 | exact fK1 | exact fK2 | exact fK3 | exact fK4 | exact fK5 | exact fK6 | exact fE0 | exact fE1 | exact fE2 | exact fE3 | exact fA0 | exact fD0 | exact fD1) rfl ?_; refine Ops.fldO rfl rfl rfl (by with_reducible first | exact fK0 | exact fK1 | exact fK2 | exact fK3 | exact fK4 | exact fK5 | exact fK6 | exact fE0 | exact fE1 | exact fE2 | exact fE3 | exact fA0 | exact fD0 | exact fD1) rfl ?_; refine Ops.ld1A rfl rfl rfl rfl rfl (by with_reducible first | exact lInt | exact lAddr | exact lAssume | exact lClaims | exact lIDs) rfl ?_; refine Ops.ld1A rfl rfl rfl rfl rfl (by with_reducible first | exact lInt | exact lAddr | exact lAssume | exact lClaims | exact lIDs) rfl ?_)
  refine Ops.call gosorted hA rfl rfl rfl rfl ?_
  skip
  refine Ops.call gosorted hB rfl rfl rfl rfl ?_
  (refine Ops.assign rfl rfl rfl ?_; refine Ops.assign rfl rfl rfl ?_; refine Ops.nil (hK _ _ ?_); clear hK K; refine Fin.then ?_; refine St.seq ?_; refine St.regionK (fun K hK => ?_); refine Ops.move rfl rfl rfl ?_; refine Ops.move rfl rfl rfl ?_)
  refine Ops.call gowithout (without_ok a b (by omega) (by omega)) rfl rfl rfl rfl ?_
  (refine Ops.move rfl rfl rfl ?_; refine Ops.move rfl rfl rfl ?_)
  refine Ops.call gowithout (without_ok b a (by omega) (by omega)) rfl rfl rfl rfl ?_
  refine Ops.build rfl (by with_reducible exact bDiff) rfl (.one rfl rfl rfl rfl (.one rfl rfl rfl rfl .nil)) rfl ?_
  (refine Ops.stWN 2 rfl rfl rfl rfl rfl (by with_reducible exact szDiff) rfl rfl ?_; refine Ops.nil (hK _ _ ?_); clear hK K; refine Fin.then ?_; refine St.ret ?_)
  refine Fin.end [_] rfl (AllRes.cellN (n := 2) rfl rfl (by with_reducible exact lDiff) rfl AllRes.nil) rfl rfl

theorem goInv : InGo Try.prog 11 := InGo.of Try.func11 rfl (by decide)
set_option maxHeartbeats 4000000 in
theorem Inv_ok (g m : List Cl) (hg : g.length ≤ 100) (hm : m.length ≤ 100) : Ok Try.prog 11 [dfC g m] (dfC m g) := by
  refine Ok.enter Try.func11 rfl _ Try.ntmps11 rfl ?_
  intro S w
  (refine St.seq ?_; refine St.regionK (fun K hK => ?_); refine Ops.boxN 0 rfl rfl rfl rfl rfl rfl rfl ?_; refine Ops.alloc 1 rfl rfl (by with_reducible exact zvDiff) rfl rfl rfl ?_; refine Ops.nil (hK _ _ ?_); clear hK K; refine Fin.then ?_; refine St.seq ?_)
  refine St.drawK (by with_reducible exact mixed) 7 (.p 0 (.p 3 (.f 1 (.f 4 (.m 2 (.m 5 (.p 6 (.a 7 .done)))))))) (by kernel_rfl) (fun K hK => ?_)
  (refine Ops.fldO rfl rfl rfl (by with_reducible first | exact fK0 | exact fK1 | exact fK2 | exact fK3 | exact fK4 | exact fK5 | exact fK6 | exact fE0 | exact fE1 | exact fE2 | exact fE3 | exact fA0 | exact fD0 | exact fD1) rfl ?_; refine Ops.fldO rfl rfl rfl (by with_reducible first | exact fK0 | exact fK1 | exact fK2 | exact fK3 | exact fK4 | exact fK5 | exact fK6 | exact fE0 | exact fE1 | exact fE2 | exact fE3 | exact fA0 | exact fD0 | exact fD1) rfl ?_; refine Ops.ld1A rfl rfl rfl rfl rfl (by with_reducible first | exact lInt | exact lAddr | exact lAssume | exact lClaims | exact lIDs) rfl ?_; refine Ops.ld1A rfl rfl rfl rfl rfl (by with_reducible first | exact lInt | exact lAddr | exact lAssume | exact lClaims | exact lIDs) rfl ?_)
  refine Ops.callFr 2 goClone (Clone_ok m (by omega)) rfl rfl rfl rfl rfl rfl ?_
  refine Ops.freeze 2 _ rfl (cls_frozen _ _) noBor_sub ?_
  skip
  refine Ops.callFr 2 goClone (Clone_ok g (by omega)) rfl rfl rfl rfl rfl rfl ?_
  refine Ops.freeze 2 _ rfl (cls_frozen _ _) noBor_sub ?_
  skip
  refine Ops.build rfl (by with_reducible exact bDiff) rfl (.one rfl rfl rfl rfl (.one rfl rfl rfl rfl .nil)) rfl ?_
  (refine Ops.stWN 2 rfl rfl rfl rfl rfl (by with_reducible exact szDiff) rfl rfl ?_; refine Ops.nil (hK _ _ ?_); clear hK K; refine Fin.then ?_; refine St.ret ?_)
  refine Fin.end [_] rfl (AllRes.cellN (n := 2) rfl rfl (by with_reducible exact lDiff) rfl AllRes.nil) rfl rfl

theorem goSame : InGo Try.prog 13 := InGo.of Try.func13 rfl (by decide)
set_option maxHeartbeats 4000000 in
theorem Same_refl (g m : List Cl) (hg : g.length ≤ 100) (hm : m.length ≤ 100) : Ok Try.prog 13 [dfC g m, dfC g m] (boolC true) := by
  refine Ok.enter Try.func13 rfl _ Try.ntmps13 rfl ?_
  intro S w
  (refine St.seq ?_; refine St.regionK (fun K hK => ?_); refine Ops.boxN 0 rfl rfl rfl rfl rfl rfl rfl ?_; refine Ops.boxN 1 rfl rfl rfl rfl rfl rfl rfl ?_; refine Ops.assign rfl rfl rfl ?_; refine Ops.nil (hK _ _ ?_); clear hK K; refine Fin.then ?_; refine St.seq ?_; refine St.regionK (fun K hK => ?_); refine Ops.fldO rfl rfl rfl (by with_reducible first | exact fK0 | exact fK1 | exact fK2 | exact fK3 | exact fK4 | exact fK5 | exact fK6 | exact fE0 | exact fE1 | exact fE2 | exact fE3 | exact fA0 | exact fD0 | exact fD1) rfl ?_; refine Ops.ld1A rfl rfl rfl rfl rfl (by with_reducible first | exact lInt | exact lAddr | exact lAssume | exact lClaims | exact lIDs) rfl ?_; refine Ops.fldO rfl rfl rfl (by with_reducible first | exact fK0 | exact fK1 | exact fK2 | exact fK3 | exact fK4 | exact fK5 | exact fK6 | exact fE0 | exact fE1 | exact fE2 | exact fE3 | exact fA0 | exact fD0 | exact fD1) rfl ?_; refine Ops.ld1A rfl rfl rfl rfl rfl (by with_reducible first | exact lInt | exact lAddr | exact lAssume | exact lClaims | exact lIDs) rfl ?_)
  refine Ops.call goEqual (Equal_refl g (by omega)) rfl rfl rfl rfl ?_
  (refine Ops.move rfl rfl rfl ?_; refine Ops.fldO rfl rfl rfl (by with_reducible first | exact fK0 | exact fK1 | exact fK2 | exact fK3 | exact fK4 | exact fK5 | exact fK6 | exact fE0 | exact fE1 | exact fE2 | exact fE3 | exact fA0 | exact fD0 | exact fD1) rfl ?_; refine Ops.ld1A rfl rfl rfl rfl rfl (by with_reducible first | exact lInt | exact lAddr | exact lAssume | exact lClaims | exact lIDs) rfl ?_; refine Ops.fldO rfl rfl rfl (by with_reducible first | exact fK0 | exact fK1 | exact fK2 | exact fK3 | exact fK4 | exact fK5 | exact fK6 | exact fE0 | exact fE1 | exact fE2 | exact fE3 | exact fA0 | exact fD0 | exact fD1) rfl ?_; refine Ops.ld1A rfl rfl rfl rfl rfl (by with_reducible first | exact lInt | exact lAddr | exact lAssume | exact lClaims | exact lIDs) rfl ?_)
  refine Ops.call goEqual (Equal_refl m (by omega)) rfl rfl rfl rfl ?_
  (refine Ops.pickT rfl rfl rfl rfl ?_; refine Ops.assign rfl rfl rfl ?_; refine Ops.nil (hK _ _ ?_); clear hK K; refine Fin.then ?_; refine St.ret ?_)
  refine Fin.ret [_] rfl (AllRes.tmp rfl AllRes.nil) rfl rfl

theorem goVvalid : InGo Try.prog 26 := InGo.of Try.func26 rfl (by decide)
set_option maxHeartbeats 4000000 in
theorem Vvalid_ok (g m : List Cl) (hg : g.length ≤ 100) (hm : m.length ≤ 100) (ag : Asc g) (am : Asc m) (vg : ∀ c ∈ g, ValidP c) (vm : ∀ c ∈ m, ValidP c) (hw : wo g m = g) : Ok Try.prog 26 [dfC g m] (boolC true) := by
  have hW := without_ok g m (by omega) (by omega)
  rw [hw] at hW
  refine Ok.enter Try.func26 rfl _ Try.ntmps26 rfl ?_
  intro S w
  (refine St.seq ?_; refine St.regionK (fun K hK => ?_); refine Ops.boxN 0 rfl rfl rfl rfl rfl rfl rfl ?_; refine Ops.assign rfl rfl rfl ?_; refine Ops.nil (hK _ _ ?_); clear hK K; refine Fin.then ?_; refine St.seq ?_; refine St.regionK (fun K hK => ?_); refine Ops.assign rfl rfl rfl ?_; refine Ops.nil (hK _ _ ?_); clear hK K; refine Fin.then ?_; refine St.seq ?_)
  refine St.drawK (by with_reducible exact mixed) 35 (.p 0 (.f 1 (.m 2 (.p 3 (.p 4 (.f 5 (.m 6 (.p 7 (.p 8 (.p 9 (.p 11 (.f 10 (.m 12 (.p 13 (.p 14 (.p 15 (.p 16 (.p 18 (.f 17 (.m 19 (.p 20 (.p 21 (.p 22 (.p 23 (.p 25 (.p 29 (.f 24 (.f 26 (.f 30 (.p 31 (.m 27 (.p 28 (.p 32 (.p 33 (.p 34 .done))))))))))))))))))))))))))))))))))) (by kernel_rfl) (fun K hK => ?_)
  (refine Ops.fldO rfl rfl rfl (by with_reducible first | exact fK0 | exact fK1 | exact fK2 | exact fK3 | exact fK4 | exact fK5 | exact fK6 | exact fE0 | exact fE1 | exact fE2 | exact fE3 | exact fA0 | exact fD0 | exact fD1) rfl ?_; refine Ops.ld1A rfl rfl rfl rfl rfl (by with_reducible first | exact lInt | exact lAddr | exact lAssume | exact lClaims | exact lIDs) rfl ?_)
  refine Ops.call goascending (ascending_ok g (by omega) ag) rfl rfl rfl rfl ?_
  (refine Ops.move rfl rfl rfl ?_; refine Ops.fldO rfl rfl rfl (by with_reducible first | exact fK0 | exact fK1 | exact fK2 | exact fK3 | exact fK4 | exact fK5 | exact fK6 | exact fE0 | exact fE1 | exact fE2 | exact fE3 | exact fA0 | exact fD0 | exact fD1) rfl ?_; refine Ops.ld1A rfl rfl rfl rfl rfl (by with_reducible first | exact lInt | exact lAddr | exact lAssume | exact lClaims | exact lIDs) rfl ?_)
  refine Ops.call goascending (ascending_ok m (by omega) am) rfl rfl rfl rfl ?_
  (refine Ops.pickT rfl rfl rfl rfl ?_; refine Ops.move rfl rfl rfl ?_; refine Ops.fldO rfl rfl rfl (by with_reducible first | exact fK0 | exact fK1 | exact fK2 | exact fK3 | exact fK4 | exact fK5 | exact fK6 | exact fE0 | exact fE1 | exact fE2 | exact fE3 | exact fA0 | exact fD0 | exact fD1) rfl ?_; refine Ops.move rfl rfl rfl ?_; refine Ops.ld1A rfl rfl rfl rfl rfl (by with_reducible first | exact lInt | exact lAddr | exact lAssume | exact lClaims | exact lIDs) rfl ?_)
  refine Ops.call goContF (ContF_ok g (by omega) vg) rfl rfl rfl rfl ?_
  (refine Ops.inot rfl rfl rfl ?_; refine Ops.pickT rfl rfl rfl rfl ?_; refine Ops.move rfl rfl rfl ?_; refine Ops.fldO rfl rfl rfl (by with_reducible first | exact fK0 | exact fK1 | exact fK2 | exact fK3 | exact fK4 | exact fK5 | exact fK6 | exact fE0 | exact fE1 | exact fE2 | exact fE3 | exact fA0 | exact fD0 | exact fD1) rfl ?_; refine Ops.move rfl rfl rfl ?_; refine Ops.ld1A rfl rfl rfl rfl rfl (by with_reducible first | exact lInt | exact lAddr | exact lAssume | exact lClaims | exact lIDs) rfl ?_)
  refine Ops.call goContF (ContF_ok m (by omega) vm) rfl rfl rfl rfl ?_
  (refine Ops.inot rfl rfl rfl ?_; refine Ops.pickT rfl rfl rfl rfl ?_; refine Ops.move rfl rfl rfl ?_; refine Ops.fldO rfl rfl rfl (by with_reducible first | exact fK0 | exact fK1 | exact fK2 | exact fK3 | exact fK4 | exact fK5 | exact fK6 | exact fE0 | exact fE1 | exact fE2 | exact fE3 | exact fA0 | exact fD0 | exact fD1) rfl ?_; refine Ops.fldO rfl rfl rfl (by with_reducible first | exact fK0 | exact fK1 | exact fK2 | exact fK3 | exact fK4 | exact fK5 | exact fK6 | exact fE0 | exact fE1 | exact fE2 | exact fE3 | exact fA0 | exact fD0 | exact fD1) rfl ?_; refine Ops.fldO rfl rfl rfl (by with_reducible first | exact fK0 | exact fK1 | exact fK2 | exact fK3 | exact fK4 | exact fK5 | exact fK6 | exact fE0 | exact fE1 | exact fE2 | exact fE3 | exact fA0 | exact fD0 | exact fD1) rfl ?_; refine Ops.ld1A rfl rfl rfl rfl rfl (by with_reducible first | exact lInt | exact lAddr | exact lAssume | exact lClaims | exact lIDs) rfl ?_; refine Ops.ld1A rfl rfl rfl rfl rfl (by with_reducible first | exact lInt | exact lAddr | exact lAssume | exact lClaims | exact lIDs) rfl ?_; refine Ops.ld1A rfl rfl rfl rfl rfl (by with_reducible first | exact lInt | exact lAddr | exact lAssume | exact lClaims | exact lIDs) rfl ?_; refine Ops.lenF rfl rfl (by with_reducible first | exact sClaims.und | exact sInts.und | exact sLists.und) (List.length_map ..) rfl ?_)
  refine Ops.call gowithout hW rfl rfl rfl rfl ?_
  (refine Ops.lenF rfl rfl (by with_reducible first | exact sClaims.und | exact sInts.und | exact sLists.und) (List.length_map ..) rfl ?_; refine Ops.ibin ieql rfl rfl rfl rfl ?_; refine Ops.pickT rfl rfl rfl rfl ?_; refine Ops.assign rfl rfl rfl ?_; refine Ops.nil (hK _ _ ?_); clear hK K; refine Fin.then ?_; refine St.ret ?_)
  refine Fin.ret [_] rfl (AllRes.tmp rfl AllRes.nil) (by rw [← decide_eq_true (rfl : ((g.length : Nat) : Int) = g.length)]; rfl) rfl

theorem goApply : InGo Try.prog 10 := InGo.of Try.func10 rfl (by decide)
set_option maxHeartbeats 4000000 in
theorem Apply_ok (c g m : List Cl) (hc : c.length ≤ 100) (hg : g.length ≤ 100) (hm : m.length ≤ 100) (ac : Asc c) (ag : Asc g) (am : Asc m) (vg : ∀ c ∈ g, ValidP c) (vm : ∀ c ∈ m, ValidP c) (hw : wo g m = g)
    (hlen : (wo c g).length + g.length = c.length) (hmc : wo m c = m) (h12 : (wo c g ++ m).length ≤ 12) (ha : Asc (srt (wo c g ++ m))) : Ok Try.prog 10 [clsC c, dfC g m] (.fr (tupT [clsC (srt (wo c g ++ m)), intC 0])) := by
  have hW1 := without_ok c g (by omega) (by omega)
  have hW2 := without_ok m c (by omega) (by omega)
  rw [hmc] at hW2
  have hC := Concat_ok [wo c g, m] (by simp) (by simp at h12 ⊢; omega)
  rw [show [wo c g, m].flatten = wo c g ++ m by simp] at hC
  have hS := sorted_ok (wo c g ++ m) h12 ha
  generalize wo c g = rest at hW1 hC hS hlen h12 ha
  refine Ok.enter Try.func10 rfl _ Try.ntmps10 rfl ?_
  intro S w
  (refine St.seq ?_; refine St.regionK (fun K hK => ?_); refine Ops.boxN 0 rfl rfl rfl rfl rfl rfl rfl ?_; refine Ops.assign rfl rfl rfl ?_; refine Ops.assign rfl rfl rfl ?_; refine Ops.nil (hK _ _ ?_); clear hK K; refine Fin.then ?_; refine St.seq ?_; refine St.seq ?_; refine St.regionK (fun K hK => ?_); refine Ops.move rfl rfl rfl ?_)
  refine Ops.call goascending (ascending_ok c (by omega) ac) rfl rfl rfl rfl ?_
  (refine Ops.inot rfl rfl rfl ?_; refine Ops.move rfl rfl rfl ?_; refine Ops.ldNO (n := 2) rfl rfl rfl rfl rfl (by with_reducible exact lDiff) rfl ?_)
  refine Ops.call goVvalid (Vvalid_ok g m hg hm ag am vg vm hw) rfl rfl rfl rfl ?_
  (refine Ops.inot rfl rfl rfl ?_; refine Ops.pickF rfl rfl rfl rfl ?_; refine Ops.nil (hK _ _ ?_); clear hK K; refine Fin.then ?_; refine St.condF rfl ?_; refine St.skip ?_; refine Fin.then ?_; refine St.seq ?_; refine St.regionK (fun K hK => ?_); refine Ops.move rfl rfl rfl ?_; refine Ops.fldO rfl rfl rfl (by with_reducible first | exact fK0 | exact fK1 | exact fK2 | exact fK3 | exact fK4 | exact fK5 | exact fK6 | exact fE0 | exact fE1 | exact fE2 | exact fE3 | exact fA0 | exact fD0 | exact fD1) rfl ?_; refine Ops.ld1A rfl rfl rfl rfl rfl (by with_reducible first | exact lInt | exact lAddr | exact lAssume | exact lClaims | exact lIDs) rfl ?_)
  refine Ops.call gowithout hW1 rfl rfl rfl rfl ?_
  (refine Ops.assign rfl rfl rfl ?_; refine Ops.nil (hK _ _ ?_); clear hK K; refine Fin.then ?_; refine St.seq ?_; refine St.seq ?_; refine St.regionK (fun K hK => ?_); refine Ops.move rfl rfl rfl ?_; refine Ops.lenF rfl rfl (by with_reducible first | exact sClaims.und | exact sInts.und | exact sLists.und) (List.length_map ..) rfl ?_; refine Ops.fldO rfl rfl rfl (by with_reducible first | exact fK0 | exact fK1 | exact fK2 | exact fK3 | exact fK4 | exact fK5 | exact fK6 | exact fE0 | exact fE1 | exact fE2 | exact fE3 | exact fA0 | exact fD0 | exact fD1) rfl ?_; refine Ops.ld1A rfl rfl rfl rfl rfl (by with_reducible first | exact lInt | exact lAddr | exact lAssume | exact lClaims | exact lIDs) rfl ?_; refine Ops.lenF rfl rfl (by with_reducible first | exact sClaims.und | exact sInts.und | exact sLists.und) (List.length_map ..) rfl ?_; refine Ops.ibin (iadd (by omega) (by omega)) rfl rfl rfl rfl ?_; refine Ops.move rfl rfl rfl ?_; refine Ops.lenF rfl rfl (by with_reducible first | exact sClaims.und | exact sInts.und | exact sLists.und) (List.length_map ..) rfl ?_; refine Ops.ibin ineq rfl rfl rfl rfl ?_; refine Ops.nil (hK _ _ ?_); clear hK K; refine Fin.then ?_)
  refine St.condP rfl (fun h => by exfalso; omega) (fun _ => ?_)
  (refine St.skip ?_; refine Fin.then ?_; refine St.seq ?_; refine St.seq ?_)
  refine St.drawK (by with_reducible exact mixed) 9 (.p 0 (.p 2 (.p 5 (.f 1 (.f 6 (.p 7 (.m 3 (.p 4 (.p 8 .done))))))))) (by kernel_rfl) (fun K hK => ?_)
  (refine Ops.fldO rfl rfl rfl (by with_reducible first | exact fK0 | exact fK1 | exact fK2 | exact fK3 | exact fK4 | exact fK5 | exact fK6 | exact fE0 | exact fE1 | exact fE2 | exact fE3 | exact fA0 | exact fD0 | exact fD1) rfl ?_; refine Ops.move rfl rfl rfl ?_; refine Ops.fldO rfl rfl rfl (by with_reducible first | exact fK0 | exact fK1 | exact fK2 | exact fK3 | exact fK4 | exact fK5 | exact fK6 | exact fE0 | exact fE1 | exact fE2 | exact fE3 | exact fA0 | exact fD0 | exact fD1) rfl ?_; refine Ops.ld1A rfl rfl rfl rfl rfl (by with_reducible first | exact lInt | exact lAddr | exact lAssume | exact lClaims | exact lIDs) rfl ?_; refine Ops.ld1A rfl rfl rfl rfl rfl (by with_reducible first | exact lInt | exact lAddr | exact lAssume | exact lClaims | exact lIDs) rfl ?_; refine Ops.lenF rfl rfl (by with_reducible first | exact sClaims.und | exact sInts.und | exact sLists.und) (List.length_map ..) rfl ?_)
  refine Ops.call gowithout hW2 rfl rfl rfl rfl ?_
  (refine Ops.lenF rfl rfl (by with_reducible first | exact sClaims.und | exact sInts.und | exact sLists.und) (List.length_map ..) rfl ?_; refine Ops.ibin ineq rfl rfl rfl rfl ?_; refine Ops.nil (hK _ _ ?_); clear hK K; refine Fin.then ?_)
  refine St.condP rfl (fun h => absurd rfl h) (fun _ => ?_)
  (refine St.skip ?_; refine Fin.then ?_; refine St.seq ?_; refine St.regionK (fun K hK => ?_); refine Ops.move rfl rfl rfl ?_; refine Ops.fldO rfl rfl rfl (by with_reducible first | exact fK0 | exact fK1 | exact fK2 | exact fK3 | exact fK4 | exact fK5 | exact fK6 | exact fE0 | exact fE1 | exact fE2 | exact fE3 | exact fA0 | exact fD0 | exact fD1) rfl ?_; refine Ops.ld1A rfl rfl rfl rfl rfl (by with_reducible first | exact lInt | exact lAddr | exact lAssume | exact lClaims | exact lIDs) rfl ?_)
  refine Ops.lit (m := 2) (n := 1) (cs := [clsC rest, clsC m]) rfl rfl (by with_reducible exact sLists) (.one rfl rfl rfl rfl (.one rfl rfl rfl rfl .nil)) (by decide) rfl ?_
  refine Ops.call goConcat hC rfl rfl rfl rfl ?_
  refine Ops.call gosorted hS rfl rfl rfl rfl ?_
  (refine Ops.assign rfl rfl rfl ?_; refine Ops.assign rfl rfl rfl ?_; refine Ops.nil (hK _ _ ?_); clear hK K; refine Fin.then ?_; refine St.ret ?_)
  refine Fin.ret [_, _] rfl (AllRes.tmp rfl (AllRes.tmp rfl AllRes.nil)) rfl rfl

theorem goJoin : InGo Try.prog 14 := InGo.of Try.func14 rfl (by decide)
set_option maxHeartbeats 8000000 in
theorem Join_ok (g c h k : List Cl) (lg : g.length ≤ 12) (lc : c.length ≤ 12) (lh : h.length ≤ 12) (lk : k.length ≤ 12) (ag : Asc g) (ac : Asc c) (ah : Asc h) (ak : Asc k) (sg : srt g = g) (sc : srt c = c) (sh : srt h = h) (sk : srt k = k)
    (h1 : (wo g k ++ wo h c).length ≤ 12) (h2 : (wo c h ++ wo k g).length ≤ 12) (a1 : Asc (srt (wo g k ++ wo h c))) (a2 : Asc (srt (wo c h ++ wo k g))) :
    Ok Try.prog 14 [dfC g c, dfC h k] (dfC (srt (wo g k ++ wo h c)) (srt (wo c h ++ wo k g))) := by
  have S1 := sorted_ok g lg (by rw [sg]; exact ag)
  have S2 := sorted_ok c lc (by rw [sc]; exact ac)
  have S3 := sorted_ok h lh (by rw [sh]; exact ah)
  have S4 := sorted_ok k lk (by rw [sk]; exact ak)
  rw [sg] at S1; rw [sc] at S2; rw [sh] at S3; rw [sk] at S4
  have W1 := without_ok g k (by omega) (by omega)
  have W2 := without_ok h c (by omega) (by omega)
  have W3 := without_ok c h (by omega) (by omega)
  have W4 := without_ok k g (by omega) (by omega)
  have C1 := Concat_ok [wo g k, wo h c] (by simp) (by simp at h1 ⊢; omega)
  have C2 := Concat_ok [wo c h, wo k g] (by simp) (by simp at h2 ⊢; omega)
  rw [show [wo g k, wo h c].flatten = wo g k ++ wo h c by simp] at C1
  rw [show [wo c h, wo k g].flatten = wo c h ++ wo k g by simp] at C2
  have T1 := sorted_ok _ h1 a1
  have T2 := sorted_ok _ h2 a2
  generalize wo g k = p at *
  generalize wo h c = q at *
  generalize wo c h = u at *
  generalize wo k g = v at *
  refine Ok.enter Try.func14 rfl _ Try.ntmps14 rfl ?_
  intro S w
  (refine St.seq ?_; refine St.regionK (fun K hK => ?_); refine Ops.boxN 0 rfl rfl rfl rfl rfl rfl rfl ?_; refine Ops.boxN 1 rfl rfl rfl rfl rfl rfl rfl ?_; refine Ops.alloc 2 rfl rfl (by with_reducible exact zvDiff) rfl rfl rfl ?_; refine Ops.nil (hK _ _ ?_); clear hK K; refine Fin.then ?_; refine St.seq ?_)
  refine St.drawK (by with_reducible exact mixed) 16 (.p 0 (.p 3 (.p 6 (.p 9 (.f 1 (.f 4 (.f 7 (.f 10 (.m 2 (.m 5 (.m 8 (.m 11 (.p 12 (.p 13 (.p 14 (.p 15 .done)))))))))))))))) (by kernel_rfl) (fun K hK => ?_)
  (refine Ops.fldO rfl rfl rfl (by with_reducible first | exact fK0 | exact fK1 | exact fK2 | exact fK3 | exact fK4 | exact fK5 | exact fK6 | exact fE0 | exact fE1 | exact fE2 | exact fE3 | exact fA0 | exact fD0 | exact fD1) rfl ?_; refine Ops.fldO rfl rfl rfl (by with_reducible first | exact fK0 | exact fK1 | exact fK2 | exact fK3 | exact fK4 | exact fK5 | exact fK6 | exact fE0 | exact fE1 | exact fE2 | exact fE3 | exact fA0 | exact fD0 | exact fD1) rfl ?_; refine Ops.fldO rfl rfl rfl (by with_reducible first | exact fK0 | exact fK1 | exact fK2 | exact fK3 | exact fK4 | exact fK5 | exact fK6 | exact fE0 | exact fE1 | exact fE2 | exact fE3 | exact fA0 | exact fD0 | exact fD1) rfl ?_; refine Ops.fldO rfl rfl rfl (by with_reducible first | exact fK0 | exact fK1 | exact fK2 | exact fK3 | exact fK4 | exact fK5 | exact fK6 | exact fE0 | exact fE1 | exact fE2 | exact fE3 | exact fA0 | exact fD0 | exact fD1) rfl ?_; refine Ops.ld1A rfl rfl rfl rfl rfl (by with_reducible first | exact lInt | exact lAddr | exact lAssume | exact lClaims | exact lIDs) rfl ?_; refine Ops.ld1A rfl rfl rfl rfl rfl (by with_reducible first | exact lInt | exact lAddr | exact lAssume | exact lClaims | exact lIDs) rfl ?_; refine Ops.ld1A rfl rfl rfl rfl rfl (by with_reducible first | exact lInt | exact lAddr | exact lAssume | exact lClaims | exact lIDs) rfl ?_; refine Ops.ld1A rfl rfl rfl rfl rfl (by with_reducible first | exact lInt | exact lAddr | exact lAssume | exact lClaims | exact lIDs) rfl ?_)
  refine Ops.call gosorted S1 rfl rfl rfl rfl ?_
  refine Ops.call gosorted S2 rfl rfl rfl rfl ?_
  refine Ops.call gosorted S3 rfl rfl rfl rfl ?_
  refine Ops.call gosorted S4 rfl rfl rfl rfl ?_
  (refine Ops.assign rfl rfl rfl ?_; refine Ops.assign rfl rfl rfl ?_; refine Ops.assign rfl rfl rfl ?_; refine Ops.assign rfl rfl rfl ?_; refine Ops.nil (hK _ _ ?_); clear hK K; refine Fin.then ?_; refine St.seq ?_; refine St.regionK (fun K hK => ?_); refine Ops.move rfl rfl rfl ?_; refine Ops.move rfl rfl rfl ?_)
  refine Ops.call gowithout W1 rfl rfl rfl rfl ?_
  (refine Ops.move rfl rfl rfl ?_; refine Ops.move rfl rfl rfl ?_)
  refine Ops.call gowithout W2 rfl rfl rfl rfl ?_
  refine Ops.lit (m := 2) (n := 1) (cs := [clsC p, clsC q]) rfl rfl (by with_reducible exact sLists) (.one rfl rfl rfl rfl (.one rfl rfl rfl rfl .nil)) (by decide) rfl ?_
  refine Ops.call goConcat C1 rfl rfl rfl rfl ?_
  refine Ops.call gosorted T1 rfl rfl rfl rfl ?_
  (refine Ops.move rfl rfl rfl ?_; refine Ops.move rfl rfl rfl ?_)
  refine Ops.call gowithout W3 rfl rfl rfl rfl ?_
  (refine Ops.move rfl rfl rfl ?_; refine Ops.move rfl rfl rfl ?_)
  refine Ops.call gowithout W4 rfl rfl rfl rfl ?_
  refine Ops.lit (m := 2) (n := 1) (cs := [clsC u, clsC v]) rfl rfl (by with_reducible exact sLists) (.one rfl rfl rfl rfl (.one rfl rfl rfl rfl .nil)) (by decide) rfl ?_
  refine Ops.call goConcat C2 rfl rfl rfl rfl ?_
  refine Ops.call gosorted T2 rfl rfl rfl rfl ?_
  refine Ops.build rfl (by with_reducible exact bDiff) rfl (.one rfl rfl rfl rfl (.one rfl rfl rfl rfl .nil)) rfl ?_
  (refine Ops.stWN 2 rfl rfl rfl rfl rfl (by with_reducible exact szDiff) rfl rfl ?_; refine Ops.nil (hK _ _ ?_); clear hK K; refine Fin.then ?_; refine St.ret ?_)
  refine Fin.end [_] rfl (AllRes.cellN (n := 2) rfl rfl (by with_reducible exact lDiff) rfl AllRes.nil) rfl rfl
end Go.Proofs.Ytkeoejfbbmdloaa
