/-
  Walks: natural.Valid, fraction.Valid.
-/
import Derived.Test.YtgpkpmhdfcopgaaP2
namespace Go.Proofs.Ytgpkpmhdfcopgaa
open Go.Own Go.Limbs
attribute [local irreducible] St Ops Go.Own.Fin Ok

theorem all_take_succ {xs : List Int} {p : Int → Bool} {i : Nat} (h : i < xs.length) : (xs.take (i + 1)).all p = ((xs.take i).all p && p (xs.getD i 0)) := by
  rw [List.take_succ_eq_append_getElem h, List.all_append]
  simp [List.getD_eq_getElem?_getD, List.getElem?_eq_getElem h]
theorem all_false {xs : List Int} {p : Int → Bool} {i : Nat} (h : i < xs.length) (hp : p (xs.getD i 0) = false) : xs.all p = false := by
  rw [List.all_eq_false]
  refine ⟨xs[i], List.getElem_mem h, ?_⟩
  have : xs.getD i 0 = xs[i] := by simp [List.getD_eq_getElem?_getD, List.getElem?_eq_getElem h]
  rw [← this, hp]; simp

theorem bad2 {x : Int} (h : x < 0 ∨ BB ≤ x) : (decide (0 ≤ x) && decide (x < BB)) = false := by
  rw [Bool.and_eq_false_iff, decide_eq_false_iff_not, decide_eq_false_iff_not]; omega
theorem good2 {x : Int} (h1 : 0 ≤ x) (h2 : x < BB) : (true && (decide (0 ≤ x) && decide (x < BB))) = true := by
  rw [Bool.true_and, Bool.and_eq_true, decide_eq_true_eq, decide_eq_true_eq]; omega

set_option maxHeartbeats 2000000 in
theorem Valid_ok (xs : List Int) (hl : xs.length < 4611686018427387904) : Ok Try.prog 47 [intsC xs] (boolC (validL xs)) := by
  refine Ok.enter Try.func47 rfl _ Try.ntmps47 rfl ?_
  intro S w
  (refine St.seq ?_; refine St.regionK (fun K hK => ?_); refine Ops.assign rfl rfl rfl ?_; refine Ops.nil (hK _ _ ?_); refine Fin.then ?_; refine St.seq ?_; refine St.seq ?_; refine St.regionK (fun K hK => ?_); refine Ops.move rfl rfl rfl ?_; refine Ops.lenF rfl rfl (by with_reducible first | exact sNat.und | exact sInts.und) (List.length_map ..) rfl ?_; refine Ops.move rfl rfl rfl ?_; refine Ops.nil (hK _ _ ?_); refine Fin.then ?_; refine St.block ?_)
  refine St.loop (α := Nat) (fun i => i ≤ xs.length ∧ (xs.take i).all (fun x => decide (0 ≤ x) && decide (x < BB)) = true)
    (fun i => [(0, .ct (intsC xs)), (5, .ct (intsC xs)), (6, .ct (intC xs.length)), (7, .ct (intC i))]) (fun _ => []) (fun i => xs.length - i) 0 ⟨Nat.zero_le _, rfl⟩ (by exact Entails.of rfl ⟨rfl, rfl, rfl, rfl, trivial⟩) ?_
  intro i ⟨hi, hv⟩
  dsimp only
  (refine St.seq ?_; refine St.regionK (fun K hK => ?_); refine Ops.ibin ilss rfl rfl rfl rfl ?_; refine Ops.nil (hK _ _ ?_); refine Fin.then ?_; refine St.seq ?_)
  refine St.condP rfl (fun h => ?_) (fun h => ?_)
  · have e2 : (i : Int).toNat = i := Int.toNat_natCast i
    have hlt : i < xs.length := by omega
    have hbad : (decide (0 ≤ xs.getD i 0) && decide (xs.getD i 0 < BB)) = false → validL xs = false := fun hp => by
      unfold validL; rw [all_false (p := fun x => decide (0 ≤ x) && decide (x < BB)) hlt hp]; rfl
    (refine St.skip ?_; refine Fin.then ?_; refine St.seq ?_; refine St.block ?_; refine St.seq ?_; refine St.regionK (fun K hK => ?_); refine Ops.idxF rfl rfl rfl (by with_reducible first | exact sNat | exact sInts) (by omega) (ints_at (by omega) (by omega)) rfl ?_; refine Ops.ld1F rfl rfl rfl (by with_reducible first | exact lInt | exact lNat | exact lBool | exact lInts) rfl ?_; refine Ops.assign rfl rfl rfl ?_; refine Ops.nil (hK _ _ ?_); refine Fin.then ?_; refine St.seq ?_; refine St.regionK (fun K hK => ?_); refine Ops.move rfl rfl rfl ?_; refine Ops.ibin ilss rfl rfl rfl rfl ?_; refine Ops.move rfl rfl rfl ?_)
    rw [e2]
    skip
    refine Ops.splitP 13 rfl (fun h2 => ?_) (fun h2 => ?_)
    · (refine Ops.skip rfl rfl rfl ?_; refine Ops.skip rfl rfl rfl ?_; refine Ops.pickT rfl rfl rfl rfl ?_; refine Ops.nil (hK _ _ ?_); refine Fin.then ?_; refine St.condT rfl ?_; refine St.seq ?_; refine St.regionK (fun K hK => ?_); refine Ops.assign rfl rfl rfl ?_; refine Ops.nil (hK _ _ ?_); refine Fin.then ?_; refine St.ret ?_; refine Fin.blockRet ?_; refine Fin.thenRet ?_; refine Fin.thenRet ?_; refine Fin.blockRet ?_; refine Fin.thenRet ?_)
      refine Fin.ret [_] rfl (AllRes.tmp rfl AllRes.nil) (by rw [hbad (bad2 (by unfold BB; omega))]; rfl) rfl
    · (refine Ops.move rfl rfl rfl ?_; refine Ops.ibin igeq rfl rfl rfl rfl ?_; refine Ops.pickF rfl rfl rfl rfl ?_; refine Ops.nil (hK _ _ ?_); refine Fin.then ?_)
      refine St.condP rfl (fun h3 => ?_) (fun h3 => ?_)
      · (refine St.seq ?_; refine St.regionK (fun K hK => ?_); refine Ops.assign rfl rfl rfl ?_; refine Ops.nil (hK _ _ ?_); refine Fin.then ?_; refine St.ret ?_; refine Fin.blockRet ?_; refine Fin.thenRet ?_; refine Fin.thenRet ?_; refine Fin.blockRet ?_; refine Fin.thenRet ?_)
        refine Fin.ret [_] rfl (AllRes.tmp rfl AllRes.nil) (by rw [hbad (bad2 (by unfold BB; omega))]; rfl) rfl
      · (refine St.skip ?_; refine Fin.then ?_; refine St.regionK (fun K hK => ?_); refine Ops.ibin (iadd (by omega) (by omega)) rfl rfl rfl rfl ?_; refine Ops.move rfl rfl rfl ?_; refine Ops.nil (hK _ _ ?_); refine Fin.thenN ?_)
        refine Fin.next (i + 1) (by omega) ⟨by omega, ?_⟩ (by exact Entails.of rfl ⟨rfl, rfl, rfl, by simp only [Int.natCast_add]; rfl, trivial⟩)
        rw [all_take_succ hlt, hv]
        exact good2 (by omega) (by unfold BB; omega)
  · have hi' : i = xs.length := by omega
    rw [hi', List.take_length] at hv
    have e : validL xs = (decide (xs.length ≤ 256) && (decide (xs.length = 0) || decide (xs.getD (xs.length - 1) 0 ≠ 0))) := by unfold validL; rw [hv]; simp
    clear h
    (refine St.exit ?_; refine Fin.then ?_; refine St.seq ?_; refine St.regionK (fun K hK => ?_); refine Ops.move rfl rfl rfl ?_; refine Ops.lenF rfl rfl (by with_reducible first | exact sNat.und | exact sInts.und) (List.length_map ..) rfl ?_; refine Ops.ibin ileq rfl rfl rfl rfl ?_; refine Ops.move rfl rfl rfl ?_)
    refine Ops.splitP 21 rfl (fun h2 => ?_) (fun h2 => ?_)
    · (refine Ops.move rfl rfl rfl ?_; refine Ops.lenF rfl rfl (by with_reducible first | exact sNat.und | exact sInts.und) (List.length_map ..) rfl ?_; refine Ops.ibin ieql rfl rfl rfl rfl ?_; refine Ops.move rfl rfl rfl ?_)
      refine Ops.splitP 25 rfl (fun h3 => ?_) (fun h3 => ?_)
      · (refine Ops.skip rfl rfl rfl ?_; refine Ops.skip rfl rfl rfl ?_; refine Ops.skip rfl rfl rfl ?_; refine Ops.skip rfl rfl rfl ?_; refine Ops.skip rfl rfl rfl ?_; refine Ops.skip rfl rfl rfl ?_; refine Ops.skip rfl rfl rfl ?_; refine Ops.pickT rfl rfl rfl rfl ?_; refine Ops.pickT rfl rfl rfl rfl ?_; refine Ops.assign rfl rfl rfl ?_; refine Ops.nil (hK _ _ ?_); refine Fin.then ?_; refine St.ret ?_)
        refine Fin.ret [_] rfl (AllRes.tmp rfl AllRes.nil) (by rw [e, show decide (xs.length ≤ 256) = true by simp; omega, show decide (xs.length = 0) = true by rw [decide_eq_true_eq]; omega]; rfl) rfl
      · have e1 : ((xs.length : Int) - 1).toNat = xs.length - 1 := by omega
        (refine Ops.move rfl rfl rfl ?_; refine Ops.move rfl rfl rfl ?_; refine Ops.lenF rfl rfl (by with_reducible first | exact sNat.und | exact sInts.und) (List.length_map ..) rfl ?_; refine Ops.ibin (isub (by omega) (by omega)) rfl rfl rfl rfl ?_; refine Ops.idxF rfl rfl rfl (by with_reducible first | exact sNat | exact sInts) (by omega) (ints_at (by omega) (by omega)) rfl ?_; refine Ops.ld1F rfl rfl rfl (by with_reducible first | exact lInt | exact lNat | exact lBool | exact lInts) rfl ?_; refine Ops.ibin ineq rfl rfl rfl rfl ?_; refine Ops.pickF rfl rfl rfl rfl ?_; refine Ops.pickT rfl rfl rfl rfl ?_; refine Ops.assign rfl rfl rfl ?_; refine Ops.nil (hK _ _ ?_); refine Fin.then ?_; refine St.ret ?_)
        rw [e1]
        skip
        refine Fin.ret [_] rfl (AllRes.tmp rfl AllRes.nil) (by rw [e, show decide (xs.length ≤ 256) = true by simp; omega, show decide (xs.length = 0) = false by simp; intro h4; subst h4; simp at h3]; rfl) rfl
    · (refine Ops.skip rfl rfl rfl ?_; refine Ops.skip rfl rfl rfl ?_; refine Ops.skip rfl rfl rfl ?_; refine Ops.skip rfl rfl rfl ?_; refine Ops.skip rfl rfl rfl ?_; refine Ops.skip rfl rfl rfl ?_; refine Ops.skip rfl rfl rfl ?_; refine Ops.skip rfl rfl rfl ?_; refine Ops.skip rfl rfl rfl ?_; refine Ops.skip rfl rfl rfl ?_; refine Ops.skip rfl rfl rfl ?_; refine Ops.skip rfl rfl rfl ?_; refine Ops.pickF rfl rfl rfl rfl ?_; refine Ops.assign rfl rfl rfl ?_; refine Ops.nil (hK _ _ ?_); refine Fin.then ?_; refine St.ret ?_)
      refine Fin.ret [_] rfl (AllRes.tmp rfl AllRes.nil) (by rw [e, show decide (xs.length ≤ 256) = false by simp; omega]; rfl) rfl
theorem goValid : InGo Try.prog 47 := InGo.of Try.func47 (by kernel_rfl) (by kernel_rfl)

theorem Valid1_ok (xs : List Int) (hl : xs.length < 4611686018427387904) : Ok Try.prog 46 [intsC xs] (boolC (validL xs && decide (xs.length ≤ 64))) := by
  refine Ok.enter Try.func46 rfl _ Try.ntmps46 rfl ?_
  intro S w
  (refine St.seq ?_; refine St.regionK (fun K hK => ?_); refine Ops.assign rfl rfl rfl ?_; refine Ops.nil (hK _ _ ?_); refine Fin.then ?_; refine St.seq ?_; refine St.regionK (fun K hK => ?_); refine Ops.move rfl rfl rfl ?_)
  refine Ops.call goValid (Valid_ok xs hl) rfl rfl rfl rfl ?_
  (refine Ops.move rfl rfl rfl ?_)
  refine Ops.split 5 rfl (fun h => ?_) (fun h => ?_)
  · (refine Ops.move rfl rfl rfl ?_; refine Ops.lenF rfl rfl (by with_reducible first | exact sNat.und | exact sInts.und) (List.length_map ..) rfl ?_; refine Ops.ibin ileq rfl rfl rfl rfl ?_; refine Ops.pickT rfl rfl rfl rfl ?_; refine Ops.assign rfl rfl rfl ?_; refine Ops.nil (hK _ _ ?_); refine Fin.then ?_; refine St.ret ?_)
    refine Fin.ret [_] rfl (AllRes.tmp rfl AllRes.nil) (by rw [h, Bool.true_and, show decide (xs.length ≤ 64) = decide ((xs.length : Int) ≤ 64) by rw [decide_eq_decide]; omega]; rfl) rfl
  · (refine Ops.skip rfl rfl rfl ?_; refine Ops.skip rfl rfl rfl ?_; refine Ops.skip rfl rfl rfl ?_; refine Ops.pickF rfl rfl rfl rfl ?_; refine Ops.assign rfl rfl rfl ?_; refine Ops.nil (hK _ _ ?_); refine Fin.then ?_; refine St.ret ?_)
    refine Fin.ret [_] rfl (AllRes.tmp rfl AllRes.nil) (by rw [h, Bool.false_and]; rfl) rfl
theorem goValid1 : InGo Try.prog 46 := InGo.of Try.func46 (by kernel_rfl) (by kernel_rfl)

/-- Is it a fraction? -/
def fvalidL (neg : Bool) (xs ys : List Int) : Bool := (validL xs && decide (xs.length ≤ 64)) && (validL ys && decide (ys.length ≤ 64)) && decide (0 < ys.length) && !(neg && decide (xs.length = 0))

set_option maxHeartbeats 2000000 in
theorem FValid_list (neg : Bool) (xs ys : List Int) (hx : xs.length < 4611686018427387904) (hy : ys.length < 4611686018427387904) : Ok Try.prog 26 [.fr (aggT [boolC neg, intsC xs, intsC ys])] (boolC (fvalidL neg xs ys)) := by
  refine Ok.enter Try.func26 rfl _ Try.ntmps26 rfl ?_
  intro S w
  have e0 : fvalidL neg xs ys = ((validL xs && decide (xs.length ≤ 64)) && (validL ys && decide (ys.length ≤ 64)) && decide (0 < ys.length) && !(neg && decide (xs.length = 0))) := rfl
  have h1 := Valid1_ok xs hx
  have h2 := Valid1_ok ys hy
  generalize (validL xs && decide (xs.length ≤ 64)) = b1 at e0 h1
  generalize (validL ys && decide (ys.length ≤ 64)) = b2 at e0 h2
  generalize fvalidL neg xs ys = r at *
  (refine St.seq ?_; refine St.regionK (fun K hK => ?_); refine Ops.boxN 0 rfl rfl rfl rfl rfl rfl rfl ?_; refine Ops.assign rfl rfl rfl ?_; refine Ops.nil (hK _ _ ?_); refine Fin.then ?_; refine St.seq ?_; refine St.regionK (fun K hK => ?_); refine Ops.assign rfl rfl rfl ?_; refine Ops.nil (hK _ _ ?_); refine Fin.then ?_; refine St.seq ?_; refine St.regionK (fun K hK => ?_); refine Ops.move rfl rfl rfl ?_; refine Ops.fldO rfl rfl rfl (by with_reducible first | exact fF0 | exact fF1 | exact fF2 | exact fR0 | exact fR1) rfl ?_; refine Ops.ld1A rfl rfl rfl rfl rfl (by with_reducible first | exact lInt | exact lNat | exact lBool | exact lInts) rfl ?_)
  refine Ops.callF goValid1 rfl h1 rfl rfl rfl rfl ?_
  (refine Ops.move rfl rfl rfl ?_)
  refine Ops.split 8 rfl (fun h => ?_) (fun h => ?_)
  · (refine Ops.move rfl rfl rfl ?_; refine Ops.fldO rfl rfl rfl (by with_reducible first | exact fF0 | exact fF1 | exact fF2 | exact fR0 | exact fR1) rfl ?_; refine Ops.ld1A rfl rfl rfl rfl rfl (by with_reducible first | exact lInt | exact lNat | exact lBool | exact lInts) rfl ?_)
    refine Ops.callF goValid1 rfl h2 rfl rfl rfl rfl ?_
    (refine Ops.pickT rfl rfl rfl rfl ?_; refine Ops.move rfl rfl rfl ?_)
    refine Ops.split 14 rfl (fun h3 => ?_) (fun h3 => ?_)
    · (refine Ops.fldO rfl rfl rfl (by with_reducible first | exact fF0 | exact fF1 | exact fF2 | exact fR0 | exact fR1) rfl ?_; refine Ops.ld1A rfl rfl rfl rfl rfl (by with_reducible first | exact lInt | exact lNat | exact lBool | exact lInts) rfl ?_; refine Ops.lenF rfl rfl (by with_reducible first | exact sNat.und | exact sInts.und) (List.length_map ..) rfl ?_; refine Ops.ibin igtr rfl rfl rfl rfl ?_; refine Ops.pickT rfl rfl rfl rfl ?_; refine Ops.move rfl rfl rfl ?_)
      refine Ops.splitP 20 rfl (fun h4 => ?_) (fun h4 => ?_)
      · (refine Ops.fldO rfl rfl rfl (by with_reducible first | exact fF0 | exact fF1 | exact fF2 | exact fR0 | exact fR1) rfl ?_; refine Ops.ld1A rfl rfl rfl rfl rfl (by with_reducible first | exact lInt | exact lNat | exact lBool | exact lInts) rfl ?_; refine Ops.move rfl rfl rfl ?_)
        refine Ops.split 23 rfl (fun h5 => ?_) (fun h5 => ?_)
        · (refine Ops.fldO rfl rfl rfl (by with_reducible first | exact fF0 | exact fF1 | exact fF2 | exact fR0 | exact fR1) rfl ?_; refine Ops.ld1A rfl rfl rfl rfl rfl (by with_reducible first | exact lInt | exact lNat | exact lBool | exact lInts) rfl ?_; refine Ops.lenF rfl rfl (by with_reducible first | exact sNat.und | exact sInts.und) (List.length_map ..) rfl ?_; refine Ops.ibin ieql rfl rfl rfl rfl ?_; refine Ops.pickT rfl rfl rfl rfl ?_; refine Ops.inot rfl rfl rfl ?_; refine Ops.pickT rfl rfl rfl rfl ?_; refine Ops.assign rfl rfl rfl ?_; refine Ops.nil (hK _ _ ?_); refine Fin.then ?_; refine St.ret ?_)
          refine Fin.ret [_] rfl (AllRes.tmp rfl AllRes.nil) (by rw [e0, h, h3, h5, show decide (0 < ys.length) = true by rw [decide_eq_true_eq]; omega, show decide (xs.length = 0) = decide ((xs.length : Int) = 0) by rw [decide_eq_decide]; omega]; rfl) rfl
        · (refine Ops.skip rfl rfl rfl ?_; refine Ops.skip rfl rfl rfl ?_; refine Ops.skip rfl rfl rfl ?_; refine Ops.skip rfl rfl rfl ?_; refine Ops.pickF rfl rfl rfl rfl ?_; refine Ops.inot rfl rfl rfl ?_; refine Ops.pickT rfl rfl rfl rfl ?_; refine Ops.assign rfl rfl rfl ?_; refine Ops.nil (hK _ _ ?_); refine Fin.then ?_; refine St.ret ?_)
          refine Fin.ret [_] rfl (AllRes.tmp rfl AllRes.nil) (by rw [e0, h, h3, h5, show decide (0 < ys.length) = true by rw [decide_eq_true_eq]; omega]; rfl) rfl
      · (refine Ops.skip rfl rfl rfl ?_; refine Ops.skip rfl rfl rfl ?_; refine Ops.skip rfl rfl rfl ?_; refine Ops.skip rfl rfl rfl ?_; refine Ops.skip rfl rfl rfl ?_; refine Ops.skip rfl rfl rfl ?_; refine Ops.skip rfl rfl rfl ?_; refine Ops.skip rfl rfl rfl ?_; refine Ops.skip rfl rfl rfl ?_; refine Ops.pickF rfl rfl rfl rfl ?_; refine Ops.assign rfl rfl rfl ?_; refine Ops.nil (hK _ _ ?_); refine Fin.then ?_; refine St.ret ?_)
        refine Fin.ret [_] rfl (AllRes.tmp rfl AllRes.nil) (by rw [e0, h, h3, show decide (0 < ys.length) = false by rw [decide_eq_false_iff_not]; omega]; rfl) rfl
    · (refine Ops.skip rfl rfl rfl ?_; refine Ops.skip rfl rfl rfl ?_; refine Ops.skip rfl rfl rfl ?_; refine Ops.skip rfl rfl rfl ?_; refine Ops.pickF rfl rfl rfl rfl ?_; refine Ops.move rfl rfl rfl ?_; refine Ops.skip rfl rfl rfl ?_; refine Ops.skip rfl rfl rfl ?_; refine Ops.skip rfl rfl rfl ?_; refine Ops.skip rfl rfl rfl ?_; refine Ops.skip rfl rfl rfl ?_; refine Ops.skip rfl rfl rfl ?_; refine Ops.skip rfl rfl rfl ?_; refine Ops.skip rfl rfl rfl ?_; refine Ops.skip rfl rfl rfl ?_; refine Ops.pickF rfl rfl rfl rfl ?_; refine Ops.assign rfl rfl rfl ?_; refine Ops.nil (hK _ _ ?_); refine Fin.then ?_; refine St.ret ?_)
      refine Fin.ret [_] rfl (AllRes.tmp rfl AllRes.nil) (by rw [e0, h3, Bool.and_false]; rfl) rfl
  · (refine Ops.skip rfl rfl rfl ?_; refine Ops.skip rfl rfl rfl ?_; refine Ops.skip rfl rfl rfl ?_; refine Ops.skip rfl rfl rfl ?_; refine Ops.pickF rfl rfl rfl rfl ?_; refine Ops.move rfl rfl rfl ?_; refine Ops.skip rfl rfl rfl ?_; refine Ops.skip rfl rfl rfl ?_; refine Ops.skip rfl rfl rfl ?_; refine Ops.skip rfl rfl rfl ?_; refine Ops.pickF rfl rfl rfl rfl ?_; refine Ops.move rfl rfl rfl ?_; refine Ops.skip rfl rfl rfl ?_; refine Ops.skip rfl rfl rfl ?_; refine Ops.skip rfl rfl rfl ?_; refine Ops.skip rfl rfl rfl ?_; refine Ops.skip rfl rfl rfl ?_; refine Ops.skip rfl rfl rfl ?_; refine Ops.skip rfl rfl rfl ?_; refine Ops.skip rfl rfl rfl ?_; refine Ops.skip rfl rfl rfl ?_; refine Ops.pickF rfl rfl rfl rfl ?_; refine Ops.assign rfl rfl rfl ?_; refine Ops.nil (hK _ _ ?_); refine Fin.then ?_; refine St.ret ?_)
    refine Fin.ret [_] rfl (AllRes.tmp rfl AllRes.nil) (by rw [e0, h]; rfl) rfl
theorem goFValid : InGo Try.prog 26 := InGo.of Try.func26 (by kernel_rfl) (by kernel_rfl)

end Go.Proofs.Ytgpkpmhdfcopgaa
