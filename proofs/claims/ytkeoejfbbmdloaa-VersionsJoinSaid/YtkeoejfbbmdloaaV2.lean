/-
  Walks: versions.without, versions.ascending, ref38.SameClaims, slices.Equal.
-/
import Derived.Test.YtkeoejfbbmdloaaV1
namespace Go.Proofs.Ytkeoejfbbmdloaa
open Go.Own
attribute [local irreducible] St Ops Go.Own.Fin Ok OkB OkN OkT OkL OkF

/-- The claims of the first list that the second one has not, both ascending. -/
def wo : List Cl → List Cl → List Cl
  | [], _ => []
  | x :: xs, [] => x :: wo xs []
  | x :: xs, y :: ys => if cmpC x y < 0 then x :: wo xs (y :: ys) else if 0 < cmpC x y then wo (x :: xs) ys else wo xs (y :: ys)
termination_by l o => l.length + o.length
theorem wo_nil (o : List Cl) : wo [] o = [] := by simp [wo]
theorem wo_end (x : Cl) (xs : List Cl) : wo (x :: xs) [] = x :: wo xs [] := by rw [wo]
theorem wo_cons (x : Cl) (xs : List Cl) (y : Cl) (ys : List Cl) : wo (x :: xs) (y :: ys) = if cmpC x y < 0 then x :: wo xs (y :: ys) else if 0 < cmpC x y then wo (x :: xs) ys else wo xs (y :: ys) := by rw [wo]
theorem dropC {l : List Cl} {i : Nat} (h : i < l.length) : l.drop i = l.getD i c0 :: l.drop (i + 1) := by
  rw [List.drop_eq_getElem_cons h, List.getD_eq_getElem?_getD, List.getElem?_eq_getElem h]; rfl

abbrev cmpV : CT := .ex (.func (.func 24) #[] #[])
theorem gowithout : InGo Try.prog 23 := InGo.of Try.func23 rfl (by decide)
set_option maxHeartbeats 4000000 in
theorem without_ok (l o : List Cl) (hl : l.length ≤ 1000) (ho : o.length ≤ 1000) : Ok Try.prog 23 [clsC l, clsC o, cmpV] (clsC (wo l o)) := by
  refine Ok.enter Try.func23 rfl _ Try.ntmps23 rfl ?_
  intro S w
  (refine St.seq ?_; refine St.regionK (fun K hK => ?_); refine Ops.assign rfl rfl rfl ?_; refine Ops.nil (hK _ _ ?_); clear hK K; refine Fin.then ?_; refine St.seq ?_; refine St.regionK (fun K hK => ?_); refine Ops.assign rfl rfl rfl ?_; refine Ops.nil (hK _ _ ?_); clear hK K; refine Fin.then ?_; refine St.seq ?_; refine St.seq ?_; refine St.regionK (fun K hK => ?_); refine Ops.assign rfl rfl rfl ?_; refine Ops.assign rfl rfl rfl ?_; refine Ops.nil (hK _ _ ?_); clear hK K; refine Fin.then ?_; refine St.block ?_)
  refine St.nilRow 7 0 52 7 rfl rfl rfl ?_
  refine St.loop (α := Nat × Nat × List Cl) (fun x => x.1 ≤ l.length ∧ x.2.1 ≤ o.length ∧ x.2.2 ++ wo (l.drop x.1) (o.drop x.2.1) = wo l o ∧ x.2.2.length ≤ x.1)
    (fun x => [(0, .ct (clsC l)), (1, .ct (clsC o)), (2, .ct cmpV), (7, .own 0), (8, .ct (intC x.1)), (9, .ct (intC x.2.1))]) (fun x => [(0, .row 52 7 (cls x.2.2))]) (fun x => (l.length - x.1) + (o.length - x.2.1)) (0, 0, []) ⟨Nat.zero_le _, Nat.zero_le _, rfl, Nat.le_refl _⟩ (by exact Entails.of rfl ⟨rfl, rfl, rfl, rfl, rfl, rfl, trivial⟩) ?_
  rintro ⟨i, k, out⟩ ⟨hi, hk, hw, hol⟩
  dsimp only at hi hk hw hol ⊢
  have e2 : ∀ n : Nat, (n : Int).toNat = n := Int.toNat_natCast
  (refine St.seq ?_; refine St.seq ?_; refine St.regionK (fun K hK => ?_); refine Ops.move rfl rfl rfl ?_; refine Ops.move rfl rfl rfl ?_; refine Ops.lenF rfl rfl (by with_reducible first | exact sClaims.und | exact sInts.und | exact sLists.und) (List.length_map ..) rfl ?_; refine Ops.ibin ilss rfl rfl rfl rfl ?_; refine Ops.nil (hK _ _ ?_); clear hK K; refine Fin.then ?_)
  refine St.condP rfl (fun h => ?_) (fun h => ?_)
  · have hil : i < l.length := by omega
    have hd := dropC hil
    (refine St.skip ?_; refine Fin.then ?_; refine St.block ?_; refine St.block ?_; refine St.seq ?_)
    refine St.drawK (by with_reducible exact mixed) 18 (.p 0 (.p 1 (.p 2 (.p 3 (.p 4 (.p 5 (.p 6 (.p 7 (.p 8 (.p 10 (.p 11 (.p 12 (.f 9 (.f 13 (.m 14 (.p 15 (.p 16 (.p 17 .done)))))))))))))))))) (by kernel_rfl) (fun K hK => ?_)
    (refine Ops.move rfl rfl rfl ?_; refine Ops.move rfl rfl rfl ?_; refine Ops.lenF rfl rfl (by with_reducible first | exact sClaims.und | exact sInts.und | exact sLists.und) (List.length_map ..) rfl ?_; refine Ops.ibin ieql rfl rfl rfl rfl ?_; refine Ops.move rfl rfl rfl ?_)
    refine Ops.splitP 21 rfl (fun h2 => ?_) (fun h2 => ?_)
    · have hk' : k = o.length := by omega
      (refine Ops.skip rfl rfl rfl ?_; refine Ops.skip rfl rfl rfl ?_; refine Ops.skip rfl rfl rfl ?_; refine Ops.skip rfl rfl rfl ?_; refine Ops.skip rfl rfl rfl ?_; refine Ops.skip rfl rfl rfl ?_; refine Ops.skip rfl rfl rfl ?_; refine Ops.skip rfl rfl rfl ?_; refine Ops.skip rfl rfl rfl ?_; refine Ops.skip rfl rfl rfl ?_; refine Ops.skip rfl rfl rfl ?_; refine Ops.pickT rfl rfl rfl rfl ?_; refine Ops.assign rfl rfl rfl ?_; refine Ops.nil (hK _ _ ?_); clear hK K; refine Fin.then ?_; refine St.condT rfl ?_; refine St.seq ?_; refine St.regionK (fun K hK => ?_); refine Ops.move rfl rfl rfl ?_; refine Ops.move rfl rfl rfl ?_; refine Ops.move rfl rfl rfl ?_; refine Ops.idxF rfl rfl rfl (by with_reducible exact sClaims) (by omega) (cls_at (by omega) (by omega)) rfl ?_; refine Ops.ldNF (n := 7) rfl rfl rfl (by with_reducible exact lClaim) rfl rfl ?_)
      rw [e2]
      generalize l.getD i c0 = x at hd
      skip
      refine Ops.litN (n := 7) rfl rfl (by with_reducible exact sClaims) rfl rfl (by decide) rfl ?_
      refine Ops.append1 out.length (cls (out ++ [x])) rfl rfl rfl rfl (by with_reducible exact sClaims) (cls_len out) rfl (by omega) (by omega) (cls_snoc out x) rfl ?_
      (refine Ops.assign rfl rfl rfl ?_; refine Ops.nil (hK _ _ ?_); clear hK K; refine Fin.then ?_; refine St.regionK (fun K hK => ?_); refine Ops.move rfl rfl rfl ?_; refine Ops.ibin (iadd (by omega) (by omega)) rfl rfl rfl rfl ?_; refine Ops.assign rfl rfl rfl ?_; refine Ops.nil (hK _ _ ?_); clear hK K; refine Fin.blockN ?_; refine Fin.blockN ?_; refine Fin.thenN ?_)
      refine Fin.next (i + 1, k, out ++ [x]) (by dsimp only; omega) ⟨by dsimp only; omega, hk, by
        dsimp only; rw [← hw, hd, hk', List.drop_length, wo_end, List.append_assoc]; rfl, by simp; omega⟩ (by exact Entails.of rfl ⟨rfl, rfl, rfl, rfl, by simp only [Int.natCast_add]; rfl, rfl, trivial⟩)
    · have hk' : k < o.length := by omega
      have hd2 := dropC hk'
      (refine Ops.move rfl rfl rfl ?_; refine Ops.move rfl rfl rfl ?_; refine Ops.move rfl rfl rfl ?_; refine Ops.idxF rfl rfl rfl (by with_reducible exact sClaims) (by omega) (cls_at (by omega) (by omega)) rfl ?_; refine Ops.move rfl rfl rfl ?_; refine Ops.move rfl rfl rfl ?_; refine Ops.idxF rfl rfl rfl (by with_reducible exact sClaims) (by omega) (cls_at (by omega) (by omega)) rfl ?_; refine Ops.ldNF (n := 7) rfl rfl rfl (by with_reducible exact lClaim) rfl rfl ?_; refine Ops.ldNF (n := 7) rfl rfl rfl (by with_reducible exact lClaim) rfl rfl ?_)
      rw [e2, e2]
      generalize hx : l.getD i c0 = x at hd
      generalize hy : o.getD k c0 = y at hd2
      rw [hd, hd2, wo_cons] at hw
      refine Ops.callF goACmp rfl (ACmp_ok x y) rfl rfl rfl rfl ?_
      (refine Ops.ibin ilss rfl rfl rfl rfl ?_; refine Ops.pickF rfl rfl rfl rfl ?_; refine Ops.assign rfl rfl rfl ?_; refine Ops.nil (hK _ _ ?_); clear hK K; refine Fin.then ?_)
      refine St.condP rfl (fun h3 => ?_) (fun h3 => ?_)
      · rw [if_pos h3] at hw
        (refine St.seq ?_; refine St.regionK (fun K hK => ?_); refine Ops.move rfl rfl rfl ?_; refine Ops.move rfl rfl rfl ?_; refine Ops.move rfl rfl rfl ?_; refine Ops.idxF rfl rfl rfl (by with_reducible exact sClaims) (by omega) (cls_at (by omega) (by omega)) rfl ?_; refine Ops.ldNF (n := 7) rfl rfl rfl (by with_reducible exact lClaim) rfl rfl ?_)
        rw [e2, hx]
        skip
        refine Ops.litN (n := 7) rfl rfl (by with_reducible exact sClaims) rfl rfl (by decide) rfl ?_
        refine Ops.append1 out.length (cls (out ++ [x])) rfl rfl rfl rfl (by with_reducible exact sClaims) (cls_len out) rfl (by omega) (by omega) (cls_snoc out x) rfl ?_
        (refine Ops.assign rfl rfl rfl ?_; refine Ops.nil (hK _ _ ?_); clear hK K; refine Fin.then ?_; refine St.regionK (fun K hK => ?_); refine Ops.move rfl rfl rfl ?_; refine Ops.ibin (iadd (by omega) (by omega)) rfl rfl rfl rfl ?_; refine Ops.assign rfl rfl rfl ?_; refine Ops.nil (hK _ _ ?_); clear hK K; refine Fin.blockN ?_; refine Fin.blockN ?_; refine Fin.thenN ?_)
        refine Fin.next (i + 1, k, out ++ [x]) (by dsimp only; omega) ⟨by dsimp only; omega, hk, by
          dsimp only; rw [← hw, hd2, List.append_assoc]; rfl, by simp; omega⟩ (by exact Entails.of rfl ⟨rfl, rfl, rfl, rfl, by simp only [Int.natCast_add]; rfl, rfl, trivial⟩)
      · rw [if_neg h3] at hw
        (refine St.seq ?_)
        refine St.drawK (by with_reducible exact mixed) 12 (.p 0 (.p 1 (.p 2 (.p 3 (.p 5 (.p 6 (.p 7 (.f 4 (.f 8 (.m 9 (.p 10 (.p 11 .done)))))))))))) (by kernel_rfl) (fun K hK => ?_)
        (refine Ops.move rfl rfl rfl ?_; refine Ops.move rfl rfl rfl ?_; refine Ops.move rfl rfl rfl ?_; refine Ops.idxF rfl rfl rfl (by with_reducible exact sClaims) (by omega) (cls_at (by omega) (by omega)) rfl ?_; refine Ops.move rfl rfl rfl ?_; refine Ops.move rfl rfl rfl ?_; refine Ops.idxF rfl rfl rfl (by with_reducible exact sClaims) (by omega) (cls_at (by omega) (by omega)) rfl ?_; refine Ops.ldNF (n := 7) rfl rfl rfl (by with_reducible exact lClaim) rfl rfl ?_; refine Ops.ldNF (n := 7) rfl rfl rfl (by with_reducible exact lClaim) rfl rfl ?_)
        rw [e2, e2, hx, hy]
        refine Ops.callF goACmp rfl (ACmp_ok x y) rfl rfl rfl rfl ?_
        (refine Ops.ibin igtr rfl rfl rfl rfl ?_; refine Ops.assign rfl rfl rfl ?_; refine Ops.nil (hK _ _ ?_); clear hK K; refine Fin.then ?_)
        refine St.condP rfl (fun h4 => ?_) (fun h4 => ?_)
        · rw [if_pos h4] at hw
          (refine St.regionK (fun K hK => ?_); refine Ops.move rfl rfl rfl ?_; refine Ops.ibin (iadd (by omega) (by omega)) rfl rfl rfl rfl ?_; refine Ops.assign rfl rfl rfl ?_; refine Ops.nil (hK _ _ ?_); clear hK K; refine Fin.blockN ?_; refine Fin.blockN ?_; refine Fin.thenN ?_)
          refine Fin.next (i, k + 1, out) (by dsimp only; omega) ⟨hi, by dsimp only; omega, by dsimp only; rw [← hw, hd], hol⟩ (by exact Entails.of rfl ⟨rfl, rfl, rfl, rfl, rfl, by simp only [Int.natCast_add]; rfl, trivial⟩)
        · rw [if_neg h4] at hw
          (refine St.regionK (fun K hK => ?_); refine Ops.move rfl rfl rfl ?_; refine Ops.ibin (iadd (by omega) (by omega)) rfl rfl rfl rfl ?_; refine Ops.assign rfl rfl rfl ?_; refine Ops.nil (hK _ _ ?_); clear hK K; refine Fin.blockN ?_; refine Fin.blockN ?_; refine Fin.thenN ?_)
          refine Fin.next (i + 1, k, out) (by dsimp only; omega) ⟨by dsimp only; omega, hk, by dsimp only; rw [← hw, hd2], by dsimp only; omega⟩ (by exact Entails.of rfl ⟨rfl, rfl, rfl, rfl, by simp only [Int.natCast_add]; rfl, rfl, trivial⟩)
  · have hi' : i = l.length := by omega
    refine St.freeze 0 _ rfl (cls_frozen _ _) noBor_sub ?_
    (refine St.exit ?_; refine Fin.then ?_; refine St.seq ?_; refine St.regionK (fun K hK => ?_); refine Ops.move rfl rfl rfl ?_; refine Ops.assign rfl rfl rfl ?_; refine Ops.nil (hK _ _ ?_); clear hK K; refine Fin.then ?_; refine St.ret ?_)
    refine Fin.ret [_] rfl (AllRes.tmp rfl AllRes.nil) (by rw [← hw, hi', List.drop_length, wo_nil, List.append_nil]; rfl) rfl

/-- Strictly ascending. -/
def Asc : List Cl → Prop
  | x :: y :: r => cmpC x y < 0 ∧ Asc (y :: r)
  | _ => True
theorem Asc.at {l : List Cl} (h : Asc l) : ∀ {i : Nat}, i + 1 < l.length → cmpC (l.getD i c0) (l.getD (i + 1) c0) < 0 := by
  induction l with
  | nil => intro i hi; simp at hi
  | cons x r ih =>
    intro i hi
    cases r with
    | nil => simp at hi
    | cons y r =>
      cases i with
      | zero => simpa using h.1
      | succ i => simpa using ih h.2 (i := i) (by simpa using hi)

theorem goascending : InGo Try.prog 25 := InGo.of Try.func25 rfl (by decide)
set_option maxHeartbeats 4000000 in
theorem ascending_ok (l : List Cl) (hl : l.length ≤ 1000) (ha : Asc l) : Ok Try.prog 25 [clsC l] (boolC true) := by
  refine Ok.enter Try.func25 rfl _ Try.ntmps25 rfl ?_
  intro S w
  (refine St.seq ?_; refine St.regionK (fun K hK => ?_); refine Ops.assign rfl rfl rfl ?_; refine Ops.nil (hK _ _ ?_); clear hK K; refine Fin.then ?_; refine St.seq ?_; refine St.seq ?_; refine St.regionK (fun K hK => ?_); refine Ops.assign rfl rfl rfl ?_; refine Ops.nil (hK _ _ ?_); clear hK K; refine Fin.then ?_; refine St.block ?_)
  refine St.loop (α := Nat) (fun i => i ≤ l.length)
    (fun i => [(0, .ct (clsC l)), (3, .ct (intC (i + 1)))]) (fun _ => []) (fun i => l.length - i) 0 (Nat.zero_le _) (by exact Entails.of rfl ⟨rfl, rfl, trivial⟩) ?_
  intro i hi
  dsimp only at hi ⊢
  (refine St.seq ?_; refine St.seq ?_; refine St.regionK (fun K hK => ?_); refine Ops.move rfl rfl rfl ?_; refine Ops.move rfl rfl rfl ?_; refine Ops.lenF rfl rfl (by with_reducible first | exact sClaims.und | exact sInts.und | exact sLists.und) (List.length_map ..) rfl ?_; refine Ops.ibin ilss rfl rfl rfl rfl ?_; refine Ops.nil (hK _ _ ?_); clear hK K; refine Fin.then ?_)
  refine St.condP rfl (fun h => ?_) (fun h => ?_)
  · have h3 := ha.at (i := i) (by omega)
    have e1 : ((i : Int) + 1 - 1).toNat = i := by omega
    have e2 : ((i : Int) + 1).toNat = i + 1 := by omega
    (refine St.skip ?_; refine Fin.then ?_; refine St.seq ?_; refine St.block ?_; refine St.seq ?_)
    refine St.drawK (by with_reducible exact mixed) 11 (.p 0 (.p 1 (.p 2 (.p 3 (.p 5 (.p 6 (.p 7 (.f 4 (.f 8 (.m 9 (.p 10 .done))))))))))) (by kernel_rfl) (fun K hK => ?_)
    (refine Ops.move rfl rfl rfl ?_; refine Ops.move rfl rfl rfl ?_; refine Ops.ibin (isub (by omega) (by omega)) rfl rfl rfl rfl ?_; refine Ops.idxF rfl rfl rfl (by with_reducible exact sClaims) (by omega) (cls_at (by omega) (by omega)) rfl ?_; refine Ops.move rfl rfl rfl ?_; refine Ops.move rfl rfl rfl ?_; refine Ops.idxF rfl rfl rfl (by with_reducible exact sClaims) (by omega) (cls_at (by omega) (by omega)) rfl ?_; refine Ops.ldNF (n := 7) rfl rfl rfl (by with_reducible exact lClaim) rfl rfl ?_; refine Ops.ldNF (n := 7) rfl rfl rfl (by with_reducible exact lClaim) rfl rfl ?_)
    rw [e1, e2]
    refine Ops.call goACmp (ACmp_ok _ _) rfl rfl rfl rfl ?_
    (refine Ops.ibin igeq rfl rfl rfl rfl ?_; refine Ops.nil (hK _ _ ?_); clear hK K; refine Fin.then ?_)
    refine St.condP rfl (fun h4 => ?_) (fun h4 => ?_)
    · omega
    · (refine St.skip ?_; refine Fin.then ?_; refine St.regionK (fun K hK => ?_); refine Ops.move rfl rfl rfl ?_; refine Ops.ibin (iadd (by omega) (by omega)) rfl rfl rfl rfl ?_; refine Ops.assign rfl rfl rfl ?_; refine Ops.nil (hK _ _ ?_); clear hK K; refine Fin.thenN ?_)
      refine Fin.next (i + 1) (by omega) (by omega) (by exact Entails.of rfl ⟨rfl, by simp only [Int.natCast_add]; rfl, trivial⟩)
  · (refine St.exit ?_; refine Fin.then ?_; refine St.seq ?_; refine St.regionK (fun K hK => ?_); refine Ops.assign rfl rfl rfl ?_; refine Ops.nil (hK _ _ ?_); clear hK K; refine Fin.then ?_; refine St.ret ?_)
    refine Fin.ret [_] rfl (AllRes.tmp rfl AllRes.nil) rfl rfl

theorem goSameClaims : InGo Try.prog 12 := InGo.of Try.func12 rfl (by decide)
set_option maxHeartbeats 4000000 in
theorem SameClaims_refl (l : List Cl) (hl : l.length ≤ 1000) : Ok Try.prog 12 [clsC l, clsC l] (boolC true) := by
  refine Ok.enter Try.func12 rfl _ Try.ntmps12 rfl ?_
  intro S w
  (refine St.seq ?_; refine St.regionK (fun K hK => ?_); refine Ops.assign rfl rfl rfl ?_; refine Ops.nil (hK _ _ ?_); clear hK K; refine Fin.then ?_; refine St.seq ?_; refine St.seq ?_; refine St.regionK (fun K hK => ?_); refine Ops.move rfl rfl rfl ?_; refine Ops.lenF rfl rfl (by with_reducible first | exact sClaims.und | exact sInts.und | exact sLists.und) (List.length_map ..) rfl ?_; refine Ops.move rfl rfl rfl ?_; refine Ops.lenF rfl rfl (by with_reducible first | exact sClaims.und | exact sInts.und | exact sLists.und) (List.length_map ..) rfl ?_; refine Ops.ibin ineq rfl rfl rfl rfl ?_; refine Ops.nil (hK _ _ ?_); clear hK K; refine Fin.then ?_)
  refine St.condP rfl (fun h => absurd rfl h) (fun _ => ?_)
  (refine St.skip ?_; refine Fin.then ?_; refine St.seq ?_; refine St.seq ?_; refine St.regionK (fun K hK => ?_); refine Ops.assign rfl rfl rfl ?_; refine Ops.nil (hK _ _ ?_); clear hK K; refine Fin.then ?_; refine St.block ?_)
  refine St.loop (α := Nat) (fun i => i ≤ l.length)
    (fun i => [(0, .ct (clsC l)), (1, .ct (clsC l)), (5, .ct (intC i))]) (fun _ => []) (fun i => l.length - i) 0 (Nat.zero_le _) (by exact Entails.of rfl ⟨rfl, rfl, rfl, trivial⟩) ?_
  intro i hi
  dsimp only at hi ⊢
  (refine St.seq ?_; refine St.seq ?_; refine St.regionK (fun K hK => ?_); refine Ops.move rfl rfl rfl ?_; refine Ops.move rfl rfl rfl ?_; refine Ops.lenF rfl rfl (by with_reducible first | exact sClaims.und | exact sInts.und | exact sLists.und) (List.length_map ..) rfl ?_; refine Ops.ibin ilss rfl rfl rfl rfl ?_; refine Ops.nil (hK _ _ ?_); clear hK K; refine Fin.then ?_)
  refine St.condP rfl (fun h => ?_) (fun h => ?_)
  · (refine St.skip ?_; refine Fin.then ?_; refine St.seq ?_; refine St.block ?_; refine St.seq ?_)
    refine St.drawK (by with_reducible exact mixed) 9 (.p 0 (.p 1 (.p 2 (.p 4 (.p 5 (.p 6 (.f 3 (.f 7 (.p 8 .done))))))))) (by kernel_rfl) (fun K hK => ?_)
    (refine Ops.move rfl rfl rfl ?_; refine Ops.move rfl rfl rfl ?_; refine Ops.idxF rfl rfl rfl (by with_reducible exact sClaims) (by omega) (cls_at (by omega) (by omega)) rfl ?_; refine Ops.move rfl rfl rfl ?_; refine Ops.move rfl rfl rfl ?_; refine Ops.idxF rfl rfl rfl (by with_reducible exact sClaims) (by omega) (cls_at (by omega) (by omega)) rfl ?_; refine Ops.ldNF (n := 7) rfl rfl rfl (by with_reducible exact lClaim) rfl rfl ?_; refine Ops.ldNF (n := 7) rfl rfl rfl (by with_reducible exact lClaim) rfl rfl ?_)
    generalize l.getD (i : Int).toNat c0 = x
    refine Ops.neS (ks := clK) (clI x) (clI x) rfl rfl rfl rfl rfl (by with_reducible exact eClaim) rfl ?_
    rw [decide_eq_true rfl]
    (refine Ops.nil (hK _ _ ?_); clear hK K; refine Fin.then ?_; refine St.condF rfl ?_; refine St.skip ?_; refine Fin.then ?_; refine St.regionK (fun K hK => ?_); refine Ops.move rfl rfl rfl ?_; refine Ops.ibin (iadd (by omega) (by omega)) rfl rfl rfl rfl ?_; refine Ops.assign rfl rfl rfl ?_; refine Ops.nil (hK _ _ ?_); clear hK K; refine Fin.thenN ?_)
    refine Fin.next (i + 1) (by omega) (by omega) (by exact Entails.of rfl ⟨rfl, rfl, by simp only [Int.natCast_add]; rfl, trivial⟩)
  · (refine St.exit ?_; refine Fin.then ?_; refine St.seq ?_; refine St.regionK (fun K hK => ?_); refine Ops.assign rfl rfl rfl ?_; refine Ops.nil (hK _ _ ?_); clear hK K; refine Fin.then ?_; refine St.ret ?_)
    refine Fin.ret [_] rfl (AllRes.tmp rfl AllRes.nil) rfl rfl

theorem goEqual : InGo Try.prog 29 := InGo.of Try.func29 rfl (by decide)
set_option maxHeartbeats 4000000 in
theorem Equal_refl (l : List Cl) (hl : l.length ≤ 1000) : Ok Try.prog 29 [clsC l, clsC l] (boolC true) := by
  refine Ok.enter Try.func29 rfl _ Try.ntmps29 rfl ?_
  intro S w
  (refine St.seq ?_; refine St.regionK (fun K hK => ?_); refine Ops.assign rfl rfl rfl ?_; refine Ops.nil (hK _ _ ?_); clear hK K; refine Fin.then ?_; refine St.seq ?_; refine St.seq ?_; refine St.regionK (fun K hK => ?_); refine Ops.move rfl rfl rfl ?_; refine Ops.lenF rfl rfl (by with_reducible first | exact sClaims.und | exact sInts.und | exact sLists.und) (List.length_map ..) rfl ?_; refine Ops.move rfl rfl rfl ?_; refine Ops.lenF rfl rfl (by with_reducible first | exact sClaims.und | exact sInts.und | exact sLists.und) (List.length_map ..) rfl ?_; refine Ops.ibin ineq rfl rfl rfl rfl ?_; refine Ops.nil (hK _ _ ?_); clear hK K; refine Fin.then ?_)
  refine St.condP rfl (fun h => absurd rfl h) (fun _ => ?_)
  (refine St.skip ?_; refine Fin.then ?_; refine St.seq ?_; refine St.seq ?_; refine St.regionK (fun K hK => ?_); refine Ops.move rfl rfl rfl ?_; refine Ops.lenF rfl rfl (by with_reducible first | exact sClaims.und | exact sInts.und | exact sLists.und) (List.length_map ..) rfl ?_; refine Ops.move rfl rfl rfl ?_; refine Ops.nil (hK _ _ ?_); clear hK K; refine Fin.then ?_; refine St.block ?_)
  refine St.loop (α := Nat) (fun i => i ≤ l.length)
    (fun i => [(0, .ct (clsC l)), (1, .ct (clsC l)), (12, .ct (intC l.length)), (13, .ct (intC i))]) (fun _ => []) (fun i => l.length - i) 0 (Nat.zero_le _) (by exact Entails.of rfl ⟨rfl, rfl, rfl, rfl, trivial⟩) ?_
  intro i hi
  dsimp only at hi ⊢
  (refine St.seq ?_; refine St.regionK (fun K hK => ?_); refine Ops.ibin ilss rfl rfl rfl rfl ?_; refine Ops.nil (hK _ _ ?_); clear hK K; refine Fin.then ?_; refine St.seq ?_)
  refine St.condP rfl (fun h => ?_) (fun h => ?_)
  · (refine St.skip ?_; refine Fin.then ?_; refine St.seq ?_; refine St.block ?_; refine St.seq ?_; refine St.regionK (fun K hK => ?_); refine Ops.move rfl rfl rfl ?_; refine Ops.assign rfl rfl rfl ?_; refine Ops.nil (hK _ _ ?_); clear hK K; refine Fin.then ?_; refine St.seq ?_)
    refine St.drawK (by with_reducible exact mixed) 9 (.p 0 (.p 1 (.p 2 (.p 4 (.p 5 (.p 6 (.f 3 (.f 7 (.p 8 .done))))))))) (by kernel_rfl) (fun K hK => ?_)
    (refine Ops.move rfl rfl rfl ?_; refine Ops.move rfl rfl rfl ?_; refine Ops.idxF rfl rfl rfl (by with_reducible exact sClaims) (by omega) (cls_at (by omega) (by omega)) rfl ?_; refine Ops.move rfl rfl rfl ?_; refine Ops.move rfl rfl rfl ?_; refine Ops.idxF rfl rfl rfl (by with_reducible exact sClaims) (by omega) (cls_at (by omega) (by omega)) rfl ?_; refine Ops.ldNF (n := 7) rfl rfl rfl (by with_reducible exact lClaim) rfl rfl ?_; refine Ops.ldNF (n := 7) rfl rfl rfl (by with_reducible exact lClaim) rfl rfl ?_)
    generalize l.getD (i : Int).toNat c0 = x
    refine Ops.neS (ks := clK) (clI x) (clI x) rfl rfl rfl rfl rfl (by with_reducible exact eClaim) rfl ?_
    rw [decide_eq_true rfl]
    (refine Ops.nil (hK _ _ ?_); clear hK K; refine Fin.then ?_; refine St.condF rfl ?_; refine St.skip ?_; refine Fin.then ?_; refine St.regionK (fun K hK => ?_); refine Ops.ibin (iadd (by omega) (by omega)) rfl rfl rfl rfl ?_; refine Ops.move rfl rfl rfl ?_; refine Ops.nil (hK _ _ ?_); clear hK K; refine Fin.thenN ?_)
    refine Fin.next (i + 1) (by omega) (by omega) (by exact Entails.of rfl ⟨rfl, rfl, rfl, by simp only [Int.natCast_add]; rfl, trivial⟩)
  · (refine St.exit ?_; refine Fin.then ?_; refine St.seq ?_; refine St.regionK (fun K hK => ?_); refine Ops.assign rfl rfl rfl ?_; refine Ops.nil (hK _ _ ?_); clear hK K; refine Fin.then ?_; refine St.ret ?_)
    refine Fin.ret [_] rfl (AllRes.tmp rfl AllRes.nil) rfl rfl
end Go.Proofs.Ytkeoejfbbmdloaa
