/-
  Walks: natural.Mul.
-/
import Derived.Test.YtgpkpmhdfcopgaaN5
import Derived.Test.YtgpkpmhdfcopgaaM4
namespace Go.Proofs.Ytgpkpmhdfcopgaa
open Go.Own Go.Limbs
attribute [local irreducible] St Ops Go.Own.Fin Ok

set_option maxHeartbeats 4000000 in
theorem Mul_ok (a b : Nat) (hx : (limbs a).length + (limbs b).length ≤ 256) : Ok Try.prog 76 [natC a, natC b] (.fr (tupT [natC (a * b), intC 0])) := by
  refine Ok.enter Try.func76 rfl _ Try.ntmps76 rfl ?_
  intro S w
  (refine St.seq ?_; refine St.regionK (fun K hK => ?_); refine Ops.assign rfl rfl rfl ?_; refine Ops.assign rfl rfl rfl ?_; refine Ops.nil (hK _ _ ?_); refine Fin.then ?_; refine St.seq ?_; refine St.regionK (fun K hK => ?_); refine Ops.move rfl rfl rfl ?_; refine Ops.lenF rfl rfl (by with_reducible first | exact sNat.und | exact sInts.und) (List.length_map ..) rfl ?_; refine Ops.move rfl rfl rfl ?_; refine Ops.lenF rfl rfl (by with_reducible first | exact sNat.und | exact sInts.und) (List.length_map ..) rfl ?_; refine Ops.ibin (iadd (by omega) (by omega)) rfl rfl rfl rfl ?_)
  refine Ops.make 0 ((limbs a).length + (limbs b).length) rfl rfl rfl (by omega) sNat (by omega) (by omega) rfl rfl rfl ?_
  rw [ints_made]
  (refine Ops.assign rfl rfl rfl ?_; refine Ops.nil (hK _ _ ?_); refine Fin.then ?_; refine St.seq ?_; refine St.seq ?_; refine St.regionK (fun K hK => ?_); refine Ops.move rfl rfl rfl ?_; refine Ops.lenF rfl rfl (by with_reducible first | exact sNat.und | exact sInts.und) (List.length_map ..) rfl ?_; refine Ops.move rfl rfl rfl ?_; refine Ops.nil (hK _ _ ?_); refine Fin.then ?_; refine St.block ?_)
  refine St.loop (α := Nat × List Int) (fun s => s.1 ≤ (limbs a).length ∧ s.2.length = (limbs a).length + (limbs b).length ∧ OKL s.2 ∧ (∀ j, s.1 + (limbs b).length ≤ j → s.2.getD j 0 = 0) ∧ val s.2 = pre (limbs a) s.1 * b)
    (fun s => [(0, .ct (natC a)), (1, .ct (natC b)), (6, .own 0), (19, .ct (natC a)), (20, .ct (intC (limbs a).length)), (21, .ct (intC s.1))])
    (fun s => [(0, .row 3 1 (ints s.2))])
    (fun s => (limbs a).length - s.1) (0, List.replicate ((limbs a).length + (limbs b).length) 0) ⟨Nat.zero_le _, by simp, OKL.zeros _, ?_, ?_⟩ (by exact Entails.of rfl ⟨rfl, rfl, rfl, rfl, rfl, rfl, trivial⟩) ?_
  · intro j _; simp [List.getD_eq_getElem?_getD, List.getElem?_replicate]; split <;> rfl
  · rw [pre_zero, val_zeros]; simp
  rintro ⟨i, out⟩ ⟨hi, hlen, hok, hz, hv⟩
  dsimp only at hi hlen hok hz hv ⊢
  (refine St.seq ?_; refine St.regionK (fun K hK => ?_); refine Ops.ibin ilss rfl rfl rfl rfl ?_; refine Ops.nil (hK _ _ ?_); refine Fin.then ?_; refine St.seq ?_)
  refine St.condP rfl (fun h => ?_) (fun h => ?_)
  · have bx := (limbs_ok a).get i
    have eix : (i : Int).toNat = i := Int.toNat_natCast i
    (refine St.skip ?_; refine Fin.then ?_; refine St.seq ?_; refine St.block ?_; refine St.seq ?_; refine St.regionK (fun K hK => ?_); refine Ops.move rfl rfl rfl ?_; refine Ops.idxF rfl rfl rfl (by with_reducible first | exact sNat | exact sInts) (by omega) (ints_at (by omega) (by omega)) rfl ?_; refine Ops.ld1F rfl rfl rfl (by with_reducible first | exact lInt | exact lNat | exact lBool | exact lInts) rfl ?_; refine Ops.assign rfl rfl rfl ?_; refine Ops.assign rfl rfl rfl ?_; refine Ops.nil (hK _ _ ?_); refine Fin.then ?_; refine St.seq ?_; refine St.regionK (fun K hK => ?_); refine Ops.assign rfl rfl rfl ?_; refine Ops.nil (hK _ _ ?_); refine Fin.then ?_; refine St.seq ?_; refine St.seq ?_; refine St.regionK (fun K hK => ?_); refine Ops.move rfl rfl rfl ?_; refine Ops.lenF rfl rfl (by with_reducible first | exact sNat.und | exact sInts.und) (List.length_map ..) rfl ?_; refine Ops.move rfl rfl rfl ?_; refine Ops.nil (hK _ _ ?_); refine Fin.then ?_; refine St.block ?_)
    rw [eix]
    skip
    refine St.loop (α := Nat × List Int × Int) (fun s => s.1 ≤ (limbs b).length ∧ s.2.1.length = (limbs a).length + (limbs b).length ∧ OKL s.2.1 ∧ (∀ j, i + (limbs b).length ≤ j → s.2.1.getD j 0 = 0) ∧ 0 ≤ s.2.2 ∧ s.2.2 < BB ∧
        val s.2.1 + s.2.2 * BB ^ (i + s.1) = val out + (limbs a).getD i 0 * pre (limbs b) s.1 * BB ^ i)
      (fun s => [(0, .ct (natC a)), (1, .ct (natC b)), (6, .own 0), (7, .ct (intC i)), (8, .ct (intC ((limbs a).getD i 0))), (9, .ct (intC s.2.2)), (19, .ct (natC a)), (20, .ct (intC (limbs a).length)), (21, .ct (intC i)), (26, .ct (natC b)), (27, .ct (intC (limbs b).length)), (28, .ct (intC s.1))])
      (fun s => [(0, .row 3 1 (ints s.2.1))])
      (fun s => (limbs b).length - s.1) (0, out, 0) ⟨Nat.zero_le _, hlen, hok, hz, Int.le_refl _, by show (0 : Int) < BB; decide, by rw [pre_zero]; simp⟩ (by exact Entails.of rfl ⟨rfl, rfl, rfl, rfl, rfl, rfl, rfl, rfl, rfl, rfl, rfl, rfl, trivial⟩) ?_
    rintro ⟨q, zs, c⟩ ⟨hq, hzl, hzok, hzz, hc0, hc1, hzv⟩
    dsimp only at hq hzl hzok hzz hc0 hc1 hzv ⊢
    (refine St.seq ?_; refine St.regionK (fun K hK => ?_); refine Ops.ibin ilss rfl rfl rfl rfl ?_; refine Ops.nil (hK _ _ ?_); refine Fin.then ?_; refine St.seq ?_)
    refine St.condP rfl (fun h2 => ?_) (fun h2 => ?_)
    · have by' := (limbs_ok b).get q
      have bz := hzok.get (i + q)
      have bm := mul_bd bx by'
      simp only [BB] at bz hc1 bx
      have eq1 : (q : Int).toNat = q := Int.toNat_natCast q
      have eiq : ((i : Int) + q).toNat * 1 = i + q := by omega
      (refine St.skip ?_; refine Fin.then ?_; refine St.seq ?_; refine St.block ?_; refine St.seq ?_; refine St.regionK (fun K hK => ?_); refine Ops.move rfl rfl rfl ?_; refine Ops.idxF rfl rfl rfl (by with_reducible first | exact sNat | exact sInts) (by omega) (ints_at (by omega) (by omega)) rfl ?_; refine Ops.ld1F rfl rfl rfl (by with_reducible first | exact lInt | exact lNat | exact lBool | exact lInts) rfl ?_; refine Ops.assign rfl rfl rfl ?_; refine Ops.assign rfl rfl rfl ?_; refine Ops.nil (hK _ _ ?_); refine Fin.then ?_; refine St.seq ?_; refine St.regionK (fun K hK => ?_); refine Ops.move rfl rfl rfl ?_; refine Ops.move rfl rfl rfl ?_; refine Ops.move rfl rfl rfl ?_; refine Ops.ibin (iadd (by omega) (by omega)) rfl rfl rfl rfl ?_)
      rw [eq1]
      skip
      refine Ops.idxR ((limbs a).length + (limbs b).length) rfl rfl rfl (by simp; omega) rfl sNat (by omega) (by omega) rfl ?_
      rw [eiq]
      refine Ops.ld1A rfl rfl rfl rfl (ints_get (by omega)) lInt rfl ?_
      (refine Ops.move rfl rfl rfl ?_; refine Ops.move rfl rfl rfl ?_; refine Ops.ibin (imul (by omega) (by omega)) rfl rfl rfl rfl ?_; refine Ops.ibin (iadd (by omega) (by omega)) rfl rfl rfl rfl ?_; refine Ops.move rfl rfl rfl ?_; refine Ops.ibin (iadd (by omega) (by omega)) rfl rfl rfl rfl ?_; refine Ops.assign rfl rfl rfl ?_; refine Ops.nil (hK _ _ ?_); refine Fin.then ?_; refine St.regionK (fun K hK => ?_); refine Ops.move rfl rfl rfl ?_; refine Ops.move rfl rfl rfl ?_; refine Ops.move rfl rfl rfl ?_; refine Ops.ibin (iadd (by omega) (by omega)) rfl rfl rfl rfl ?_; refine Ops.move rfl rfl rfl ?_; refine Ops.ibin iand30 rfl rfl rfl rfl ?_; refine Ops.move rfl rfl rfl ?_; refine Ops.ibin ishr30 rfl rfl rfl rfl ?_)
      refine Ops.idxR ((limbs a).length + (limbs b).length) rfl rfl rfl (by simp; omega) rfl sNat (by omega) (by omega) rfl ?_
      rw [eiq]
      refine Ops.st1A rfl rfl rfl rfl rfl zInt (by simp [Ent.cs]; omega) ?_
      simp only [Ent.setc, ints_set]
      (refine Ops.assign rfl rfl rfl ?_; refine Ops.nil (hK _ _ ?_); refine Fin.then ?_; refine St.regionK (fun K hK => ?_); refine Ops.ibin (iadd (by omega) (by omega)) rfl rfl rfl rfl ?_; refine Ops.move rfl rfl rfl ?_; refine Ops.nil (hK _ _ ?_); refine Fin.thenN ?_)
      refine Fin.next (q + 1, zs.set (i + q) ((zs.getD (i + q) 0 + (limbs a).getD i 0 * (limbs b).getD q 0 + c) % 1073741824), (zs.getD (i + q) 0 + (limbs a).getD i 0 * (limbs b).getD q 0 + c) / 1073741824) (by dsimp only; omega) ⟨by dsimp only; omega, by simp [hzl], ?_, ?_, ?_, ?_, ?_⟩ ?_
      all_goals dsimp only
      · exact hzok.set _ (by simp only [BB]; omega)
      · intro j hj
        rw [getD_set (by omega), if_neg (by omega)]; exact hzz j hj
      · omega
      · simp only [BB]; omega
      · rw [val_set (by omega), pre_succ, show i + (q + 1) = (i + q) + 1 by omega, Int.pow_succ, Int.pow_add]
        rw [Int.pow_add] at hzv
        have e := Int.mul_ediv_add_emod (zs.getD (i + q) 0 + (limbs a).getD i 0 * (limbs b).getD q 0 + c) 1073741824
        simp only [BB] at *
        generalize (zs.getD (i + q) 0 + (limbs a).getD i 0 * (limbs b).getD q 0 + c) / 1073741824 = Q at *
        generalize (zs.getD (i + q) 0 + (limbs a).getD i 0 * (limbs b).getD q 0 + c) % 1073741824 = M at *
        generalize (1073741824 : Int) ^ i = I at *
        generalize (1073741824 : Int) ^ q = J at *
        generalize zs.getD (i + q) 0 = z at *
        generalize (limbs a).getD i 0 = x at *
        generalize (limbs b).getD q 0 = y at *
        generalize pre (limbs b) q = pb at *
        generalize val zs = vz at *
        generalize val out = vo at *
        grind
      · exact Entails.of rfl ⟨rfl, rfl, rfl, rfl, rfl, rfl, rfl, rfl, rfl, rfl, rfl, by simp only [Int.natCast_add]; rfl, trivial⟩
    · have hq' : q = (limbs b).length := by omega
      have eib : ((i : Int) + (limbs b).length).toNat * 1 = i + (limbs b).length := by omega
      simp only [BB] at hc1
      (refine St.exit ?_; refine Fin.then ?_; refine St.regionK (fun K hK => ?_); refine Ops.move rfl rfl rfl ?_; refine Ops.move rfl rfl rfl ?_; refine Ops.move rfl rfl rfl ?_; refine Ops.lenF rfl rfl (by with_reducible first | exact sNat.und | exact sInts.und) (List.length_map ..) rfl ?_; refine Ops.ibin (iadd (by omega) (by omega)) rfl rfl rfl rfl ?_; refine Ops.move rfl rfl rfl ?_)
      refine Ops.idxR ((limbs a).length + (limbs b).length) rfl rfl rfl (by simp; omega) rfl sNat (by omega) (by omega) rfl ?_
      rw [eib]
      refine Ops.st1A rfl rfl rfl rfl rfl zInt (by simp [Ent.cs]; omega) ?_
      simp only [Ent.setc, ints_set]
      (refine Ops.nil (hK _ _ ?_); refine Fin.then ?_; refine St.regionK (fun K hK => ?_); refine Ops.ibin (iadd (by omega) (by omega)) rfl rfl rfl rfl ?_; refine Ops.move rfl rfl rfl ?_; refine Ops.nil (hK _ _ ?_); refine Fin.thenN ?_)
      refine Fin.next (i + 1, zs.set (i + (limbs b).length) c) (by dsimp only; omega) ⟨by dsimp only; omega, by simp [hzl], ?_, ?_, ?_⟩ ?_
      all_goals dsimp only
      · exact hzok.set _ (by simp only [BB]; omega)
      · intro j hj
        rw [getD_set (by omega), if_neg (by omega)]; exact hzz j (by omega)
      · rw [val_set (by omega), hzz _ (Nat.le_refl _), pre_succ]
        rw [hq', pre_all (Nat.le_refl _), val_limbs, hv] at hzv
        grind
      · exact Entails.of rfl ⟨rfl, rfl, rfl, rfl, rfl, by simp only [Int.natCast_add]; rfl, trivial⟩
  · have hi' : i = (limbs a).length := by omega
    have e4 : trimL out = limbs (a * b) := by
      rw [trim_limbs hok, hv, hi', pre_all (Nat.le_refl _), val_limbs]
      congr 1
    (refine St.exit ?_; refine Fin.then ?_; refine St.seq ?_; refine St.regionK (fun K hK => ?_); refine Ops.move rfl rfl rfl ?_)
    refine Ops.freeze 0 _ rfl (ints_frozen _ _) noBor_sub ?_
    refine Ops.call goresult (result_ok _ (by omega)) rfl rfl rfl rfl ?_
    rw [e4]
    (refine Ops.extract rfl rfl rfl rfl ?_; refine Ops.extract rfl rfl rfl rfl ?_; refine Ops.assign rfl rfl rfl ?_; refine Ops.assign rfl rfl rfl ?_; refine Ops.nil (hK _ _ ?_); refine Fin.then ?_; refine St.ret ?_)
    refine Fin.ret [_, _] rfl (AllRes.tmp rfl (AllRes.tmp rfl AllRes.nil)) rfl rfl
theorem goMul : InGo Try.prog 76 := InGo.of Try.func76 (by kernel_rfl) (by kernel_rfl)

end Go.Proofs.Ytgpkpmhdfcopgaa
