/-
  Walks: slices.Clone, slices.insertionSortCmpFunc of claims.
-/
import Derived.Test.YtkeoejfbbmdloaaV5
import Derived.Test.YtkeoejfbbmdloaaK20
namespace Go.Proofs.Ytkeoejfbbmdloaa
open Go.Own
attribute [local irreducible] St Ops Go.Own.Fin Ok OkB OkN OkT OkL OkF

theorem goClone : InGo Try.prog 28 := InGo.of Try.func28 rfl (by decide)
theorem Clone_ok (l : List Cl) (hl : l.length ≤ 1000) : OkF Try.prog 28 [clsC l] 52 7 (cls l) := by
  refine OkF.enter Try.func28 rfl _ Try.ntmps28 rfl ?_
  intro S w
  (refine St.seq ?_; refine St.regionK (fun K hK => ?_); refine Ops.assign rfl rfl rfl ?_; refine Ops.nil (hK _ _ ?_); clear hK K; refine Fin.then ?_; refine St.seq ?_; refine St.seq ?_; refine St.regionK (fun K hK => ?_); refine Ops.move rfl rfl rfl ?_)
  refine Ops.eqNil rfl rfl (by with_reducible exact sClaims.und) rfl (fun b hb => ?_)
  (refine Ops.nil (hK _ _ ?_); clear hK K; refine Fin.then ?_)
  refine St.condB rfl (fun h => ?_) (fun h => ?_)
  · have hl0 : l = [] := List.map_eq_nil_iff.1 (hb h)
    subst hl0
    (refine St.seq ?_; refine St.regionK (fun K hK => ?_); refine Ops.assign rfl rfl rfl ?_; refine Ops.nil (hK _ _ ?_); clear hK K; refine Fin.then ?_; refine St.ret ?_; refine Fin.thenRet ?_)
    refine Fin.nilRow 2 0 52 7 rfl rfl rfl ?_
    refine Fin.retF rfl rfl rfl rfl
  · (refine St.skip ?_; refine Fin.then ?_; refine St.seq ?_; refine St.regionK (fun K hK => ?_))
    refine Ops.lit0E 0 (ps := []) rfl rfl rfl (by with_reducible exact sClaims) rfl rfl rfl ?_
    (refine Ops.move rfl rfl rfl ?_)
    refine Ops.append 0 (cls l) rfl rfl rfl rfl (by with_reducible exact sClaims) rfl (cls_ones l) (by rw [List.length_map]; omega) (by rw [List.length_map]; omega) rfl rfl ?_
    (refine Ops.assign rfl rfl rfl ?_; refine Ops.nil (hK _ _ ?_); clear hK K; refine Fin.then ?_; refine St.ret ?_)
    refine Fin.retF rfl rfl rfl rfl

/-- Two neighbours change places. -/
def swp (l : List Cl) (j : Nat) : List Cl := (l.set (j + 1) (l.getD j c0)).set j (l.getD (j + 1) c0)
theorem swp_len (l : List Cl) (j : Nat) : (swp l j).length = l.length := by simp [swp]
/-- A claim goes down to its place. -/
def sift (l : List Cl) : Nat → List Cl
  | 0 => l
  | j + 1 => if cmpC (l.getD (j + 1) c0) (l.getD j c0) < 0 then sift (swp l j) j else l
theorem sift_len (l : List Cl) (j : Nat) : (sift l j).length = l.length := by
  induction j generalizing l with
  | zero => rfl
  | succ j ih => simp only [sift]; split
                 · rw [ih, swp_len]
                 · rfl
theorem sift_step (l : List Cl) {j : Nat} (h : 0 < j) : sift l j = if cmpC (l.getD j c0) (l.getD (j - 1) c0) < 0 then sift (swp l (j - 1)) (j - 1) else l := by
  obtain ⟨q, rfl⟩ : ∃ q, j = q + 1 := ⟨j - 1, by omega⟩
  rfl
/-- The first i + 1 claims are sorted. -/
def isort (l : List Cl) : Nat → List Cl
  | 0 => l
  | i + 1 => sift (isort l i) (i + 1)
theorem isort_len (l : List Cl) (i : Nat) : (isort l i).length = l.length := by
  induction i with
  | zero => rfl
  | succ i ih => simp only [isort]; rw [sift_len, ih]

abbrev unitC : CT := .fr (tupT [])
theorem goIns : InGo Try.prog 48 := InGo.of Try.func48 rfl (by decide)
set_option maxHeartbeats 8000000 in
theorem Ins_ok (l : List Cl) (hl : l.length ≤ 1000) : OkL Try.prog 48 52 7 (cls l) [intC 0, intC l.length, cmpV] unitC (cls (isort l (l.length - 1))) := by
  refine OkL.enter Try.func48 rfl _ Try.ntmps48 rfl ?_
  intro S w h0
  (refine St.seq ?_; refine St.regionK (fun K hK => ?_); refine Ops.move rfl rfl rfl ?_; refine Ops.ibin (iadd (by omega) (by omega)) rfl rfl rfl rfl ?_; refine Ops.assign rfl rfl rfl ?_; refine Ops.nil (hK _ _ ?_); clear hK K; refine Fin.then ?_; refine St.block ?_)
  refine St.loop (α := Nat) (fun i => i ≤ l.length)
    (fun i => [(0, .own 0), (1, .ct (intC 0)), (2, .ct (intC l.length)), (3, .ct cmpV), (8, .ct (intC (i + 1)))]) (fun i => [(0, .rowx h0 52 7 (cls (isort l (min i (l.length - 1)))))]) (fun i => l.length - i) 0 (Nat.zero_le _) (by exact Entails.of rfl ⟨rfl, rfl, rfl, rfl, rfl, trivial⟩) ?_
  intro i hi
  try dsimp only at hi
  try dsimp only
  (refine St.seq ?_; refine St.seq ?_; refine St.regionK (fun K hK => ?_); refine Ops.move rfl rfl rfl ?_; refine Ops.move rfl rfl rfl ?_; refine Ops.ibin ilss rfl rfl rfl rfl ?_; refine Ops.nil (hK _ _ ?_); clear hK K; refine Fin.then ?_)
  refine St.condP rfl (fun h => ?_) (fun h => ?_)
  · have hmin : min i (l.length - 1) = i := by omega
    rw [hmin]
    have hlen := isort_len l i
    have htgt : sift (isort l i) (i + 1) = isort l (i + 1) := rfl
    generalize isort l i = m0 at hlen htgt
    (refine St.skip ?_; refine Fin.then ?_; refine St.seq ?_; refine St.block ?_; refine St.seq ?_; refine St.regionK (fun K hK => ?_); refine Ops.move rfl rfl rfl ?_; refine Ops.assign rfl rfl rfl ?_; refine Ops.nil (hK _ _ ?_); clear hK K; refine Fin.then ?_; refine St.block ?_)
    refine St.loop (α := Nat × List Cl) (fun x => x.1 ≤ i + 1 ∧ x.2.length = l.length ∧ sift x.2 x.1 = isort l (i + 1))
      (fun x => [(0, .own 0), (1, .ct (intC 0)), (2, .ct (intC l.length)), (3, .ct cmpV), (8, .ct (intC (i + 1))), (9, .ct (intC x.1))]) (fun x => [(0, .rowx h0 52 7 (cls x.2))]) (fun x => x.1) (i + 1, m0) ⟨Nat.le_refl _, hlen, htgt⟩ (by exact Entails.of rfl ⟨rfl, rfl, rfl, rfl, rfl, by simp only [Int.natCast_add]; rfl, trivial⟩) ?_
    rintro ⟨j, m⟩ ⟨hj, hm, hs⟩
    dsimp only at hj hm hs ⊢
    (refine St.seq ?_; refine St.seq ?_)
    refine St.drawK (by with_reducible exact mixed) 17 (.p 0 (.p 1 (.p 2 (.p 3 (.p 4 (.p 5 (.p 6 (.p 7 (.p 9 (.p 10 (.p 11 (.p 12 (.f 8 (.f 13 (.m 14 (.p 15 (.p 16 .done))))))))))))))))) (by kernel_rfl) (fun K hK => ?_)
    (refine Ops.move rfl rfl rfl ?_; refine Ops.move rfl rfl rfl ?_; refine Ops.ibin igtr rfl rfl rfl rfl ?_; refine Ops.move rfl rfl rfl ?_)
    refine Ops.splitP 21 rfl (fun h1 => ?_) (fun h1 => ?_)
    · have e1 : (j : Int).toNat = j := by omega
      have e2 : ((j : Int) - 1).toNat = j - 1 := by omega
      rw [sift_step m (by omega)] at hs
      (refine Ops.move rfl rfl rfl ?_; refine Ops.move rfl rfl rfl ?_; refine Ops.move rfl rfl rfl ?_; refine Ops.idxX _ rfl rfl rfl (cls_len _) rfl (by with_reducible exact sClaims) (by omega) (by omega) rfl ?_; refine Ops.move rfl rfl rfl ?_; refine Ops.move rfl rfl rfl ?_; refine Ops.ibin (isub (by omega) (by omega)) rfl rfl rfl rfl ?_; refine Ops.idxX _ rfl rfl rfl (cls_len _) rfl (by with_reducible exact sClaims) (by omega) (by omega) rfl ?_; refine ldCl rfl rfl rfl rfl rfl (by omega) (by with_reducible exact lClaim) rfl ?_; refine ldCl rfl rfl rfl rfl rfl (by omega) (by with_reducible exact lClaim) rfl ?_)
      rw [e1, e2]
      refine Ops.callF goACmp rfl (ACmp_ok _ _) rfl rfl rfl rfl ?_
      (refine Ops.ibin ilss rfl rfl rfl rfl ?_; refine Ops.pickT rfl rfl rfl rfl ?_; refine Ops.nil (hK _ _ ?_); clear hK K; refine Fin.then ?_)
      refine St.condP rfl (fun h2 => ?_) (fun h2 => ?_)
      · rw [if_pos h2] at hs
        have hsw : (m.set j (m.getD (j - 1) c0)).set (j - 1) (m.getD j c0) = swp m (j - 1) := by unfold swp; rw [show j - 1 + 1 = j by omega]
        (refine St.skip ?_; refine Fin.then ?_; refine St.seq ?_; refine St.block ?_)
        refine St.drawK (by with_reducible exact mixed) 15 (.p 0 (.p 1 (.p 2 (.p 3 (.p 4 (.p 5 (.p 6 (.p 7 (.p 8 (.p 10 (.p 11 (.p 12 (.f 9 (.f 13 (.p 14 (.a 15 (.p 16 (.a 17 .done)))))))))))))))))) (by kernel_rfl) (fun K hK => ?_)
        (refine Ops.move rfl rfl rfl ?_; refine Ops.move rfl rfl rfl ?_; refine Ops.move rfl rfl rfl ?_; refine Ops.move rfl rfl rfl ?_; refine Ops.ibin (isub (by omega) (by omega)) rfl rfl rfl rfl ?_; refine Ops.move rfl rfl rfl ?_; refine Ops.move rfl rfl rfl ?_; refine Ops.ibin (isub (by omega) (by omega)) rfl rfl rfl rfl ?_; refine Ops.idxX _ rfl rfl rfl (cls_len _) rfl (by with_reducible exact sClaims) (by omega) (by omega) rfl ?_; refine Ops.move rfl rfl rfl ?_; refine Ops.move rfl rfl rfl ?_; refine Ops.idxX _ rfl rfl rfl (cls_len _) rfl (by with_reducible exact sClaims) (by omega) (by omega) rfl ?_; refine ldCl rfl rfl rfl rfl rfl (by omega) (by with_reducible exact lClaim) rfl ?_; refine ldCl rfl rfl rfl rfl rfl (by omega) (by with_reducible exact lClaim) rfl ?_; refine Ops.idxX _ rfl rfl rfl (cls_len _) rfl (by with_reducible exact sClaims) (by omega) (by omega) rfl ?_; refine stClX rfl rfl rfl rfl (by omega) (by with_reducible exact szClaim) ?_; refine Ops.idxX _ rfl rfl rfl (cls_len _) rfl (by with_reducible exact sClaims) (by omega) (by rw [List.length_set]; omega) rfl ?_; refine stClX rfl rfl rfl rfl (by rw [List.length_set]; omega) (by with_reducible exact szClaim) ?_; refine Ops.nil (hK _ _ ?_); clear hK K; refine Fin.then ?_; refine St.regionK (fun K hK => ?_); refine Ops.move rfl rfl rfl ?_; refine Ops.ibin (isub (by omega) (by omega)) rfl rfl rfl rfl ?_; refine Ops.assign rfl rfl rfl ?_; refine Ops.nil (hK _ _ ?_); clear hK K; refine Fin.thenN ?_)
        rw [e1, e2]
        skip
        rw [hsw]
        refine Fin.next (j - 1, swp m (j - 1)) (by dsimp only; omega) ⟨by dsimp only; omega, by rw [swp_len]; exact hm, hs⟩ (by rw [show ((j - 1 : Nat) : Int) = (j : Int) - 1 by omega]; exact Entails.of rfl ⟨rfl, rfl, rfl, rfl, rfl, rfl, trivial⟩)
      · rw [if_neg h2] at hs
        (refine St.exit ?_; refine Fin.then ?_; refine St.regionK (fun K hK => ?_); refine Ops.move rfl rfl rfl ?_; refine Ops.ibin (iadd (by omega) (by omega)) rfl rfl rfl rfl ?_; refine Ops.assign rfl rfl rfl ?_; refine Ops.nil (hK _ _ ?_); clear hK K; refine Fin.thenN ?_)
        refine Fin.next (i + 1) (by omega) (by omega) (by
          rw [show min (i + 1) (l.length - 1) = i + 1 by omega, ← hs]
          exact Entails.of rfl ⟨rfl, rfl, rfl, rfl, by simp only [Int.natCast_add]; rfl, trivial⟩)
    · have hj0 : j = 0 := by omega
      rw [hj0] at hs
      have hs : m = isort l (i + 1) := hs
      (refine Ops.skip rfl rfl rfl ?_; refine Ops.skip rfl rfl rfl ?_; refine Ops.skip rfl rfl rfl ?_; refine Ops.skip rfl rfl rfl ?_; refine Ops.skip rfl rfl rfl ?_; refine Ops.skip rfl rfl rfl ?_; refine Ops.skip rfl rfl rfl ?_; refine Ops.skip rfl rfl rfl ?_; refine Ops.skip rfl rfl rfl ?_; refine Ops.skip rfl rfl rfl ?_; refine Ops.skip rfl rfl rfl ?_; refine Ops.skip rfl rfl rfl ?_; refine Ops.pickF rfl rfl rfl rfl ?_; refine Ops.nil (hK _ _ ?_); clear hK K; refine Fin.then ?_; refine St.condF rfl ?_; refine St.exit ?_; refine Fin.then ?_; refine St.regionK (fun K hK => ?_); refine Ops.move rfl rfl rfl ?_; refine Ops.ibin (iadd (by omega) (by omega)) rfl rfl rfl rfl ?_; refine Ops.assign rfl rfl rfl ?_; refine Ops.nil (hK _ _ ?_); clear hK K; refine Fin.thenN ?_)
      refine Fin.next (i + 1) (by omega) (by omega) (by
        rw [show min (i + 1) (l.length - 1) = i + 1 by omega, ← hs]
        exact Entails.of rfl ⟨rfl, rfl, rfl, rfl, by simp only [Int.natCast_add]; rfl, trivial⟩)
  · have hmin : min i (l.length - 1) = l.length - 1 := by omega
    rw [hmin]
    (refine St.exit ?_; refine Fin.thenExit ?_; refine Fin.thenExit ?_; refine Fin.blockE ?_)
    refine Fin.endL [] rfl AllRes.nil rfl rfl
end Go.Proofs.Ytkeoejfbbmdloaa
