/-
  Walks: linear.Satisfies (twelfths).
-/
import Derived.Test.YtgpkpmhdfcopgaaN14
namespace Go.Proofs.Ytgpkpmhdfcopgaa
open Go.Own Go.Limbs
attribute [local irreducible] St Ops Go.Own.Fin Ok

theorem cmpI_pos {a b : Int} : 0 < cmpI a b ↔ b < a := by unfold cmpI; split <;> (try split) <;> omega
theorem cmpI_neg {a b : Int} : cmpI a b < 0 ↔ a < b := by unfold cmpI; split <;> (try split) <;> omega

theorem Satisfies1_tw (m : Int) (hm : Tb m) (h0 : 0 ≤ m) : Ok Try.prog 25 [twC m] (boolC false) := by
  refine Ok.enter Try.func25 rfl _ Try.ntmps25 rfl ?_
  intro S w
  (refine St.seq ?_; refine St.regionK (fun K hK => ?_); refine Ops.boxN 0 rfl rfl rfl rfl rfl rfl rfl ?_; refine Ops.assign rfl rfl rfl ?_; refine Ops.nil (hK _ _ ?_); clear hK K; refine Fin.then ?_; refine St.seq ?_; refine St.regionK (fun K hK => ?_); refine Ops.ldNO (n := 3) rfl rfl rfl rfl rfl (by with_reducible exact lFrac) rfl ?_)
  refine Ops.call goFValid (Valid_tw m hm) rfl rfl rfl rfl ?_
  (refine Ops.inot rfl rfl rfl ?_; refine Ops.move rfl rfl rfl ?_; refine Ops.fldO rfl rfl rfl (by with_reducible first | exact fF0 | exact fF1 | exact fF2 | exact fR0 | exact fR1) rfl ?_; refine Ops.ld1A rfl rfl rfl rfl rfl (by with_reducible first | exact lInt | exact lNat | exact lBool | exact lInts) rfl ?_; refine Ops.pickF rfl rfl rfl rfl ?_; refine Ops.assign rfl rfl rfl ?_; refine Ops.nil (hK _ _ ?_); clear hK K; refine Fin.then ?_; refine St.ret ?_)
  refine Fin.ret [_] rfl (AllRes.tmp rfl AllRes.nil) (by rw [tf_neg, decide_eq_false (show ¬ m < 0 by omega)]; rfl) rfl
theorem goSatisfies1 : InGo Try.prog 25 := InGo.of Try.func25 (by kernel_rfl) (by kernel_rfl)

theorem validR_spec {n : Int} {rs : List Rw} (h : validR n rs = true) : 0 ≤ n ∧ n ≤ 16 ∧ rs.length ≤ 64 ∧ ∀ r ∈ rs, (r.cs.length : Int) ≤ n ∧ (∀ y ∈ r.cs, y.natAbs ≤ 1048576) ∧ r.b.natAbs ≤ 4503599627370496 := by
  unfold validR at h
  simp only [Bool.and_eq_true, decide_eq_true_eq, Bool.not_eq_true'] at h
  obtain ⟨⟨⟨h1, h2⟩, h3⟩, h4⟩ := h
  refine ⟨h1, h2, h3, fun r hr => ?_⟩
  rw [List.any_eq_false] at h4
  have h5 : badR n r = false := by simpa using h4 r hr
  unfold badR okCoeffs at h5
  simp only [Bool.or_eq_false_iff, Bool.not_eq_false', Bool.and_eq_true, decide_eq_true_eq, decide_eq_false_iff_not, Bool.not_eq_true', List.any_eq_false] at h5
  obtain ⟨⟨⟨h6, h7⟩, h8⟩, h9⟩ := h5
  refine ⟨h6, fun y hy => ?_, by omega⟩
  have h10 : badC y = false := by simpa using h7 y hy
  unfold badC at h10
  simp only [Bool.or_eq_false_iff, decide_eq_false_iff_not] at h10
  omega

set_option maxHeartbeats 4000000 in
theorem Satisfies_tw (n : Nat) (rs : List Rw) (xs : List Int) (hv : validR n rs = true) (hlx : xs.length = n) (hx : ∀ y ∈ xs, 0 ≤ y ∧ y ≤ 1000) : Ok Try.prog 10 [intC n, rowsC rs, twsC xs] (boolC (rs.all fun r => decide (dot r.cs xs ≤ 12 * r.b))) := by
  obtain ⟨v1, v2, v3, v4⟩ := validR_spec hv
  have hx' : ∀ y ∈ xs, y.natAbs ≤ 1000 := fun y hy => by have := hx y hy; omega
  have hV := LValid_ok n rs (by omega) (fun r hr => by have := (v4 r hr).1; omega)
  rw [hv] at hV
  have hC := ContainsFunc_fracs (xs.map tf) _ (fun _ => false) goSatisfies1 (fun f hf => by
    obtain ⟨m, hm, rfl⟩ := List.mem_map.mp hf
    exact Satisfies1_tw m (by have := hx m hm; unfold Tb; omega) (hx m hm).1) (by simp; omega)
  rw [← twsC_eq, show (xs.map tf).any (fun _ => false) = false by simp] at hC
  refine Ok.enter Try.func10 rfl _ Try.ntmps10 rfl ?_
  intro S w
  (refine St.seq ?_; refine St.regionK (fun K hK => ?_); refine Ops.assign rfl rfl rfl ?_; refine Ops.nil (hK _ _ ?_); clear hK K; refine Fin.then ?_; refine St.seq ?_; refine St.seq ?_; refine St.regionK (fun K hK => ?_); refine Ops.move rfl rfl rfl ?_; refine Ops.move rfl rfl rfl ?_)
  refine Ops.call goLValid hV rfl rfl rfl rfl ?_
  (refine Ops.inot rfl rfl rfl ?_; refine Ops.move rfl rfl rfl ?_; refine Ops.move rfl rfl rfl ?_; refine Ops.lenF rfl rfl (by with_reducible first | exact sFracs.und | exact sRows.und) (List.length_map ..) rfl ?_; refine Ops.move rfl rfl rfl ?_; refine Ops.ibin ineq rfl rfl rfl rfl ?_; refine Ops.pickF rfl rfl rfl rfl ?_; refine Ops.move rfl rfl rfl ?_)
  rw [decide_eq_false (show ¬ ((xs.length : Int) ≠ n) by omega)]
  (refine Ops.move rfl rfl rfl ?_)
  refine Ops.call goContainsFunc_fracs hC rfl rfl rfl rfl ?_
  (refine Ops.pickF rfl rfl rfl rfl ?_; refine Ops.nil (hK _ _ ?_); clear hK K; refine Fin.then ?_; refine St.condF rfl ?_; refine St.skip ?_; refine Fin.then ?_; refine St.seq ?_; refine St.seq ?_; refine St.regionK (fun K hK => ?_); refine Ops.move rfl rfl rfl ?_; refine Ops.lenF rfl rfl (by with_reducible first | exact sFracs.und | exact sRows.und) (List.length_map ..) rfl ?_; refine Ops.move rfl rfl rfl ?_; refine Ops.nil (hK _ _ ?_); clear hK K; refine Fin.then ?_; refine St.block ?_)
  refine St.loop (α := Nat) (fun i => i ≤ rs.length ∧ ∀ j, j < i → dot (rs.getD j rw0).cs xs ≤ 12 * (rs.getD j rw0).b)
    (fun i => [(2, .ct (twsC xs)), (29, .ct (rowsC rs)), (30, .ct (intC rs.length)), (31, .ct (intC i))]) (fun _ => []) (fun i => rs.length - i) 0 ⟨Nat.zero_le _, fun j h => absurd h (Nat.not_lt_zero j)⟩ (by exact Entails.of rfl ⟨rfl, rfl, rfl, rfl, trivial⟩) ?_
  intro i ⟨hi, hj⟩
  dsimp only at hi hj ⊢
  (refine St.seq ?_; refine St.regionK (fun K hK => ?_); refine Ops.ibin ilss rfl rfl rfl rfl ?_; refine Ops.nil (hK _ _ ?_); clear hK K; refine Fin.then ?_; refine St.seq ?_)
  refine St.condP rfl (fun h => ?_) (fun h => ?_)
  · have e2 : (i : Int).toNat = i := Int.toNat_natCast i
    have hlt : i < rs.length := by omega
    obtain ⟨r1, r2, r3⟩ := v4 (rs.getD i rw0) (getD_mem hlt)
    have r4 : ∀ y ∈ (rs.getD i rw0).cs, y.natAbs ≤ 9007199254740992 := fun y hy => by have := r2 y hy; omega
    have r5 := dotN_bd (k := min (rs.getD i rw0).cs.length xs.length) r4 hx'
    have r6 : (dot (rs.getD i rw0).cs xs).natAbs ≤ 64 * 9007199254740992000 := Nat.le_trans r5 (Nat.mul_le_mul_right _ (by omega))
    (refine St.skip ?_; refine Fin.then ?_; refine St.seq ?_; refine St.block ?_; refine St.seq ?_; refine St.regionK (fun K hK => ?_); refine Ops.idxF rfl rfl rfl (by with_reducible exact sRows) (by omega) (rows_at (by omega) (by omega)) rfl ?_; refine Ops.ldNF (n := 2) rfl rfl rfl (by with_reducible exact lRow) rfl rfl ?_; refine Ops.alloc 0 rfl rfl (by with_reducible exact zvRow) rfl rfl rfl ?_; refine Ops.stWN 2 rfl rfl rfl rfl rfl (by with_reducible exact szRow) rfl rfl ?_; refine Ops.nil (hK _ _ ?_); clear hK K; refine Fin.then ?_; refine St.seq ?_; refine St.regionK (fun K hK => ?_); refine Ops.fldO rfl rfl rfl (by with_reducible first | exact fF0 | exact fF1 | exact fF2 | exact fR0 | exact fR1) rfl ?_; refine Ops.ld1A rfl rfl rfl rfl rfl (by with_reducible first | exact lInt | exact lNat | exact lBool | exact lInts) rfl ?_; refine Ops.move rfl rfl rfl ?_)
    rw [e2]
    skip
    refine Ops.call goValue (Value_tw (rs.getD i rw0).cs xs (by omega) (by omega) r4 hx') rfl rfl rfl rfl ?_
    (refine Ops.move rfl rfl rfl ?_; refine Ops.extract rfl rfl rfl rfl ?_; refine Ops.extract rfl rfl rfl rfl ?_; refine Ops.alloc 1 rfl rfl (by with_reducible first | exact zvFrac) rfl rfl rfl ?_; refine Ops.stWN 3 rfl rfl rfl rfl rfl (by with_reducible exact szFrac) rfl rfl ?_; refine Ops.assign rfl rfl rfl ?_; refine Ops.nil (hK _ _ ?_); clear hK K; refine Fin.then ?_; refine St.seq ?_; refine St.seq ?_; refine St.regionK (fun K hK => ?_); refine Ops.move rfl rfl rfl ?_; refine Ops.ibin ineq rfl rfl rfl rfl ?_; refine Ops.nil (hK _ _ ?_); clear hK K; refine Fin.then ?_; refine St.condF rfl ?_; refine St.skip ?_; refine Fin.then ?_; refine St.seq ?_; refine St.regionK (fun K hK => ?_); refine Ops.fldO rfl rfl rfl (by with_reducible first | exact fF0 | exact fF1 | exact fF2 | exact fR0 | exact fR1) rfl ?_; refine Ops.ld1A rfl rfl rfl rfl rfl (by with_reducible first | exact lInt | exact lNat | exact lBool | exact lInts) rfl ?_)
    refine Ops.call goFFrom (From_tw (rs.getD i rw0).b (by omega) (by omega)) rfl rfl rfl rfl ?_
    (refine Ops.move rfl rfl rfl ?_; refine Ops.extract rfl rfl rfl rfl ?_; refine Ops.extract rfl rfl rfl rfl ?_; refine Ops.alloc 2 rfl rfl (by with_reducible first | exact zvFrac) rfl rfl rfl ?_; refine Ops.stWN 3 rfl rfl rfl rfl rfl (by with_reducible exact szFrac) rfl rfl ?_; refine Ops.assign rfl rfl rfl ?_; refine Ops.nil (hK _ _ ?_); clear hK K; refine Fin.then ?_; refine St.seq ?_; refine St.regionK (fun K hK => ?_); refine Ops.ldNO (n := 3) rfl rfl rfl rfl rfl (by with_reducible exact lFrac) rfl ?_; refine Ops.ldNO (n := 3) rfl rfl rfl rfl rfl (by with_reducible exact lFrac) rfl ?_)
    refine Ops.call goFCompare (Compare_tw (dot (rs.getD i rw0).cs xs) (12 * (rs.getD i rw0).b) (by unfold Tb; omega) (by unfold Tb; omega)) rfl rfl rfl rfl ?_
    (refine Ops.move rfl rfl rfl ?_; refine Ops.extract rfl rfl rfl rfl ?_; refine Ops.extract rfl rfl rfl rfl ?_; refine Ops.assign rfl rfl rfl ?_; refine Ops.assign rfl rfl rfl ?_; refine Ops.nil (hK _ _ ?_); clear hK K; refine Fin.then ?_; refine St.seq ?_; refine St.regionK (fun K hK => ?_); refine Ops.move rfl rfl rfl ?_; refine Ops.ibin igtr rfl rfl rfl rfl ?_; refine Ops.nil (hK _ _ ?_); clear hK K; refine Fin.then ?_)
    refine St.condP rfl (fun h2 => ?_) (fun h2 => ?_)
    · rw [cmpI_pos] at h2
      (refine St.seq ?_; refine St.regionK (fun K hK => ?_); refine Ops.assign rfl rfl rfl ?_; refine Ops.nil (hK _ _ ?_); clear hK K; refine Fin.then ?_; refine St.ret ?_; refine Fin.blockRet ?_; refine Fin.thenRet ?_; refine Fin.thenRet ?_; refine Fin.blockRet ?_; refine Fin.thenRet ?_)
      refine Fin.ret [_] rfl (AllRes.tmp rfl AllRes.nil) (by
        rw [show (rs.all fun r => decide (dot r.cs xs ≤ 12 * r.b)) = false from List.all_eq_false.mpr ⟨_, getD_mem (z := rw0) hlt, by simp only [decide_eq_true_eq]; omega⟩]; rfl) rfl
    · rw [cmpI_pos] at h2
      (refine St.skip ?_; refine Fin.then ?_; refine St.regionK (fun K hK => ?_); refine Ops.ibin (iadd (by omega) (by omega)) rfl rfl rfl rfl ?_; refine Ops.move rfl rfl rfl ?_; refine Ops.nil (hK _ _ ?_); clear hK K; refine Fin.thenN ?_)
      refine Fin.dropB 2 (Fin.dropB 1 (Fin.dropB 0 ?_))
      refine Fin.next (i + 1) (by omega) ⟨by omega, ?_⟩ (by exact Entails.of rfl ⟨rfl, rfl, rfl, by simp only [Int.natCast_add]; rfl, trivial⟩)
      intro j hj'
      rcases Nat.lt_or_ge j i with h3 | h3
      · exact hj j h3
      · have : j = i := by omega
        rw [this]; omega
  · have hi' : i = rs.length := by omega
    (refine St.exit ?_; refine Fin.then ?_; refine St.seq ?_; refine St.regionK (fun K hK => ?_); refine Ops.assign rfl rfl rfl ?_; refine Ops.nil (hK _ _ ?_); clear hK K; refine Fin.then ?_; refine St.ret ?_)
    refine Fin.ret [_] rfl (AllRes.tmp rfl AllRes.nil) (by
      rw [show (rs.all fun r => decide (dot r.cs xs ≤ 12 * r.b)) = true from List.all_eq_true.mpr fun r hr => by
        obtain ⟨j, hj2, rfl⟩ := List.getElem_of_mem hr
        have := hj j (by omega)
        simp only [List.getD_eq_getElem?_getD, List.getElem?_eq_getElem hj2, Option.getD_some] at this
        simpa using this]; rfl) rfl
theorem goSatisfies : InGo Try.prog 10 := InGo.of Try.func10 (by kernel_rfl) (by kernel_rfl)

end Go.Proofs.Ytgpkpmhdfcopgaa
