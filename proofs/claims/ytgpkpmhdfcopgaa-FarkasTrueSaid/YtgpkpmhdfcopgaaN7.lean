/-
  Walks: natural.Int, natural.small, slices.Clone.
-/
import Derived.Test.YtgpkpmhdfcopgaaN6
import Derived.Test.YtgpkpmhdfcopgaaK8
namespace Go.Proofs.Ytgpkpmhdfcopgaa
open Go.Own Go.Limbs
attribute [local irreducible] St Ops Go.Own.Fin Ok

theorem top_step {A : List Int} {i : Nat} {vo rest b : Int} (hv : vo * b + rest * BB ^ (i + 1) = val A - pre A (i + 1)) :
    (vo + (rest * 1073741824 + A.getD i 0) / b * BB ^ i) * b + (rest * 1073741824 + A.getD i 0) % b * BB ^ i = val A - pre A i := by
  rw [pre_succ, Int.pow_succ] at hv
  have e := Int.mul_ediv_add_emod (rest * 1073741824 + A.getD i 0) b
  simp only [BB] at *
  generalize (rest * 1073741824 + A.getD i 0) / b = q at *
  generalize (rest * 1073741824 + A.getD i 0) % b = m at *
  grind

set_option maxHeartbeats 2000000 in
theorem small_ok (a : Nat) (b : Int) (hb : 0 < b) (hb2 : b < BB) (hl : (limbs a).length ≤ 256) : Ok Try.prog 84 [natC a, intC b] (.fr (tupT [natC ((a : Int) / b).toNat, intC ((a : Int) % b)])) := by
  simp only [BB] at hb2
  refine Ok.enter Try.func84 rfl _ Try.ntmps84 rfl ?_
  intro S w
  (refine St.seq ?_; refine St.regionK (fun K hK => ?_); refine Ops.assign rfl rfl rfl ?_; refine Ops.assign rfl rfl rfl ?_; refine Ops.nil (hK _ _ ?_); refine Fin.then ?_; refine St.seq ?_; refine St.regionK (fun K hK => ?_); refine Ops.move rfl rfl rfl ?_; refine Ops.lenF rfl rfl (by with_reducible first | exact sNat.und | exact sInts.und) (List.length_map ..) rfl ?_)
  refine Ops.make 0 (limbs a).length rfl rfl rfl rfl sNat (by omega) (by omega) rfl rfl rfl ?_
  rw [ints_made]
  (refine Ops.assign rfl rfl rfl ?_; refine Ops.nil (hK _ _ ?_); refine Fin.then ?_; refine St.seq ?_; refine St.regionK (fun K hK => ?_); refine Ops.assign rfl rfl rfl ?_; refine Ops.nil (hK _ _ ?_); refine Fin.then ?_; refine St.seq ?_; refine St.seq ?_; refine St.regionK (fun K hK => ?_); refine Ops.move rfl rfl rfl ?_; refine Ops.lenF rfl rfl (by with_reducible first | exact sNat.und | exact sInts.und) (List.length_map ..) rfl ?_; refine Ops.ibin (isub (by omega) (by omega)) rfl rfl rfl rfl ?_; refine Ops.assign rfl rfl rfl ?_; refine Ops.nil (hK _ _ ?_); refine Fin.then ?_; refine St.block ?_)
  refine St.loop (α := Nat × List Int × Int) (fun s => s.1 ≤ (limbs a).length ∧ s.2.1.length = (limbs a).length ∧ OKL s.2.1 ∧ (∀ j, j < s.1 → s.2.1.getD j 0 = 0) ∧ 0 ≤ s.2.2 ∧ s.2.2 < b ∧ val s.2.1 * b + s.2.2 * BB ^ s.1 = val (limbs a) - pre (limbs a) s.1)
    (fun s => [(0, .ct (natC a)), (1, .ct (intC b)), (6, .own 0), (7, .ct (intC s.2.2)), (8, .ct (intC ((s.1 : Int) - 1)))])
    (fun s => [(0, .row 3 1 (ints s.2.1))]) (fun s => s.1) ((limbs a).length, List.replicate (limbs a).length 0, 0) ⟨Nat.le_refl _, by simp, OKL.zeros _, ?_, Int.le_refl _, hb, ?_⟩ (by exact Entails.of rfl ⟨rfl, rfl, rfl, rfl, rfl, trivial⟩) ?_
  · intro j _; simp [List.getD_eq_getElem?_getD, List.getElem?_replicate]; split <;> rfl
  · dsimp only; rw [val_zeros, pre_all (Nat.le_refl _)]; simp
  rintro ⟨q, zs, rest⟩ ⟨hq, hzl, hok, hz, hr0, hr1, hv⟩
  dsimp only at hq hzl hok hz hr0 hr1 hv ⊢
  (refine St.seq ?_; refine St.seq ?_; refine St.regionK (fun K hK => ?_); refine Ops.move rfl rfl rfl ?_; refine Ops.ibin igeq rfl rfl rfl rfl ?_; refine Ops.nil (hK _ _ ?_); refine Fin.then ?_)
  refine St.condP rfl (fun h => ?_) (fun h => ?_)
  · obtain ⟨i, rfl⟩ : ∃ i, q = i + 1 := ⟨q - 1, by omega⟩
    have e1 : (((i + 1 : Nat) : Int) - 1) = (i : Int) := by omega
    have e2 : (i : Int).toNat = i := Int.toNat_natCast i
    have e3 : (i : Int).toNat * 1 = i := by omega
    have bx := (limbs_ok a).get i
    simp only [BB] at bx
    rw [e1]
    (refine St.skip ?_; refine Fin.then ?_; refine St.seq ?_; refine St.block ?_; refine St.seq ?_; refine St.regionK (fun K hK => ?_); refine Ops.move rfl rfl rfl ?_)
    refine Ops.ibin (ishl30 (by omega) (by omega)) rfl rfl rfl rfl ?_
    (refine Ops.move rfl rfl rfl ?_; refine Ops.move rfl rfl rfl ?_; refine Ops.idxF rfl rfl rfl (by with_reducible first | exact sNat | exact sInts) (by omega) (ints_at (by omega) (by omega)) rfl ?_; refine Ops.ld1F rfl rfl rfl (by with_reducible first | exact lInt | exact lNat | exact lBool | exact lInts) rfl ?_)
    rw [e2]
    refine Ops.ibin (ior30 (by omega) (by omega) (by omega) (by omega)) rfl rfl rfl rfl ?_
    (refine Ops.assign rfl rfl rfl ?_; refine Ops.nil (hK _ _ ?_); refine Fin.then ?_)
    refine St.drawK (by with_reducible exact mixed) 9 (.p 0 (.p 1 (.p 2 (.p 3 (.p 4 (.p 5 (.p 6 (.p 7 (.p 8 (.a 9 (.p 10 .done))))))))))) (by kernel_rfl) (fun K hK => ?_)
    (refine Ops.move rfl rfl rfl ?_; refine Ops.move rfl rfl rfl ?_; refine Ops.move rfl rfl rfl ?_; refine Ops.move rfl rfl rfl ?_)
    refine Ops.ibin (iquo (by omega) (by omega) (by omega)) rfl rfl rfl rfl ?_
    (refine Ops.move rfl rfl rfl ?_; refine Ops.move rfl rfl rfl ?_)
    refine Ops.ibin (irem (by omega) (by omega)) rfl rfl rfl rfl ?_
    skip
    refine Ops.idxR (limbs a).length rfl rfl rfl (by simp; omega) rfl sNat (by omega) (by omega) rfl ?_
    rw [e3]
    refine Ops.st1A rfl rfl rfl rfl rfl zInt (by simp [Ent.cs]; omega) ?_
    simp only [Ent.setc, ints_set]
    (refine Ops.assign rfl rfl rfl ?_; refine Ops.nil (hK _ _ ?_); refine Fin.then ?_; refine St.regionK (fun K hK => ?_); refine Ops.move rfl rfl rfl ?_; refine Ops.ibin (isub (by omega) (by omega)) rfl rfl rfl rfl ?_; refine Ops.assign rfl rfl rfl ?_; refine Ops.nil (hK _ _ ?_); refine Fin.thenN ?_)
    have d1 : 0 ≤ (rest * 1073741824 + (limbs a).getD i 0) / b := Int.ediv_nonneg (by omega) (by omega)
    have d2 : (rest * 1073741824 + (limbs a).getD i 0) / b < 1073741824 := by
      apply Int.ediv_lt_of_lt_mul hb
      have : (rest + 1) * 1073741824 ≤ b * 1073741824 := Int.mul_le_mul_of_nonneg_right (by omega) (by decide)
      rw [Int.mul_comm 1073741824 b]; omega
    have d3 := Int.emod_nonneg (rest * 1073741824 + (limbs a).getD i 0) (b := b) (by omega)
    have d4 := Int.emod_lt_of_pos (rest * 1073741824 + (limbs a).getD i 0) hb
    refine Fin.next (i, zs.set i ((rest * 1073741824 + (limbs a).getD i 0) / b), (rest * 1073741824 + (limbs a).getD i 0) % b) (by dsimp only; omega) ⟨by dsimp only; omega, by simp [hzl], ?_, ?_, d3, d4, ?_⟩ (by exact Entails.of rfl ⟨rfl, rfl, rfl, rfl, rfl, trivial⟩)
    all_goals dsimp only
    · exact hok.set _ (by simp only [BB]; omega)
    · intro j hj; rw [getD_set (by omega), if_neg (by omega)]; exact hz j (by omega)
    · rw [val_set (by omega), hz i (by omega), Int.sub_zero]
      exact top_step hv
  · have hq0 : q = 0 := by omega
    subst hq0
    have e4 : val zs * b + rest = a := by rw [pre_zero, val_limbs] at hv; simpa using hv
    have e5 : (a : Int) / b = val zs ∧ (a : Int) % b = rest := by
      rw [← e4]
      constructor
      · rw [Int.add_comm, Int.add_mul_ediv_right _ _ (by omega), Int.ediv_eq_zero_of_lt hr0 hr1]; omega
      · rw [Int.add_comm, Int.add_mul_emod_self_right, Int.emod_eq_of_lt hr0 hr1]
    rw [e5.1, e5.2]
    (refine St.exit ?_; refine Fin.then ?_; refine St.seq ?_; refine St.regionK (fun K hK => ?_); refine Ops.move rfl rfl rfl ?_)
    refine Ops.freeze 0 _ rfl (ints_frozen _ _) noBor_sub ?_
    refine Ops.call gotrim (trim_ok _ (by omega)) rfl rfl rfl rfl ?_
    rw [trim_limbs hok]
    (refine Ops.move rfl rfl rfl ?_; refine Ops.assign rfl rfl rfl ?_; refine Ops.assign rfl rfl rfl ?_; refine Ops.nil (hK _ _ ?_); refine Fin.then ?_; refine St.ret ?_)
    refine Fin.ret [_, _] rfl (AllRes.tmp rfl (AllRes.tmp rfl AllRes.nil)) rfl rfl
theorem gosmall : InGo Try.prog 84 := InGo.of Try.func84 (by kernel_rfl) (by kernel_rfl)

theorem ints_ones (xs : List Int) : ones (xs.map intC) = true := by
  induction xs with
  | nil => rfl
  | cons x xs ih => simp [ones, CT.one, Value.oneCell', ih]

theorem Clone_ok (xs : List Int) (hl : xs.length ≤ 1000000) : Ok Try.prog 82 [intsC xs] (intsC xs) := by
  refine Ok.enter Try.func82 rfl _ Try.ntmps82 rfl ?_
  intro S w
  (refine St.seq ?_; refine St.regionK (fun K hK => ?_); refine Ops.assign rfl rfl rfl ?_; refine Ops.nil (hK _ _ ?_); refine Fin.then ?_; refine St.seq ?_; refine St.seq ?_; refine St.regionK (fun K hK => ?_); refine Ops.move rfl rfl rfl ?_)
  refine Ops.eqNil rfl rfl sNat.und rfl (fun b hb => ?_)
  (refine Ops.nil (hK _ _ ?_); refine Fin.then ?_)
  refine St.condB rfl (fun h => ?_) (fun h => ?_)
  · have h0 := hb h
    have : xs = [] := by simpa using h0
    subst this
    (refine St.seq ?_; refine St.regionK (fun K hK => ?_); refine Ops.assign rfl rfl rfl ?_; refine Ops.nil (hK _ _ ?_); refine Fin.then ?_; refine St.ret ?_; refine Fin.thenRet ?_)
    refine Fin.ret [_] rfl (AllRes.nilS 1 rfl AllRes.nil) rfl rfl
  · clear hb h
    (refine St.skip ?_; refine Fin.then ?_; refine St.seq ?_; refine St.regionK (fun K hK => ?_))
    refine Ops.lit0E 0 rfl rfl rfl sNat rfl rfl rfl ?_
    (refine Ops.move rfl rfl rfl ?_)
    refine Ops.append 0 (ints xs) rfl rfl rfl rfl sNat rfl ?_ (by simp; omega) (by simp; omega) ?_ rfl ?_
    · rw [flat_one]; exact ints_ones xs
    · rw [flat_one]; rfl
    (refine Ops.assign rfl rfl rfl ?_; refine Ops.nil (hK _ _ ?_); refine Fin.then ?_; refine St.ret ?_)
    refine Fin.freeze 0 _ rfl (ints_frozen _ _) noBor_sub ?_
    refine Fin.ret [_] rfl (AllRes.tmp rfl AllRes.nil) rfl rfl
theorem goClone : InGo Try.prog 82 := InGo.of Try.func82 (by kernel_rfl) (by kernel_rfl)

end Go.Proofs.Ytgpkpmhdfcopgaa
