/-
  Walks: natural.Add.
-/
import Derived.Test.YtgpkpmhdfcopgaaN2
import Derived.Test.YtgpkpmhdfcopgaaM2
namespace Go.Proofs.Ytgpkpmhdfcopgaa
open Go.Own Go.Limbs
attribute [local irreducible] St Ops Go.Own.Fin Ok

theorem goat : InGo Try.prog 88 := InGo.of Try.func88 (by kernel_rfl) (by kernel_rfl)
theorem goresult : InGo Try.prog 89 := InGo.of Try.func89 (by kernel_rfl) (by kernel_rfl)

/-- A natural number. -/
abbrev natC (n : Nat) : CT := intsC (limbs n)

/-- A sum, limb by limb. -/
theorem Add_list (xs ys : List Int) (hx : xs.length ≤ 200) (hy : ys.length ≤ 200) (bx : OKL xs) (by' : OKL ys) :
    Ok Try.prog 73 [intsC xs, intsC ys] (.fr (tupT [natC (val xs + val ys).toNat, intC 0])) := by
  refine Ok.enter Try.func73 rfl _ Try.ntmps73 rfl ?_
  intro S w
  (refine St.seq ?_; refine St.regionK (fun K hK => ?_); refine Ops.assign rfl rfl rfl ?_; refine Ops.assign rfl rfl rfl ?_; refine Ops.nil (hK _ _ ?_); refine Fin.then ?_; refine St.seq ?_; refine St.regionK (fun K hK => ?_); refine Ops.move rfl rfl rfl ?_; refine Ops.lenF rfl rfl (by with_reducible first | exact sNat.und | exact sInts.und) (List.length_map ..) rfl ?_; refine Ops.move rfl rfl rfl ?_; refine Ops.lenF rfl rfl (by with_reducible first | exact sNat.und | exact sInts.und) (List.length_map ..) rfl ?_; refine Ops.max2 rfl rfl rfl rfl ?_; refine Ops.assign rfl rfl rfl ?_; refine Ops.nil (hK _ _ ?_); refine Fin.then ?_; refine St.seq ?_; refine St.regionK (fun K hK => ?_); refine Ops.move rfl rfl rfl ?_; refine Ops.ibin (iadd (by omega) (by omega)) rfl rfl rfl rfl ?_)
  refine Ops.make 0 (max xs.length ys.length + 1) rfl rfl rfl (by omega) sNat (by omega) (by omega) rfl rfl rfl ?_
  rw [ints_made]
  (refine Ops.assign rfl rfl rfl ?_; refine Ops.nil (hK _ _ ?_); refine Fin.then ?_; refine St.seq ?_; refine St.regionK (fun K hK => ?_); refine Ops.assign rfl rfl rfl ?_; refine Ops.nil (hK _ _ ?_); refine Fin.then ?_; refine St.seq ?_; refine St.seq ?_; refine St.regionK (fun K hK => ?_); refine Ops.move rfl rfl rfl ?_; refine Ops.move rfl rfl rfl ?_; refine Ops.nil (hK _ _ ?_); refine Fin.then ?_; refine St.block ?_)
  refine St.loop (α := Nat × List Int × Int) (fun s => s.1 ≤ max xs.length ys.length ∧ s.2.1.length = s.1 ∧ OKL s.2.1 ∧ 0 ≤ s.2.2 ∧ s.2.2 ≤ 1 ∧ val s.2.1 + s.2.2 * BB ^ s.1 = pre xs s.1 + pre ys s.1)
    (fun s => [(0, .ct (intsC xs)), (1, .ct (intsC ys)), (6, .ct (intC (max ↑xs.length ↑ys.length))), (7, .own 0), (8, .ct (intC s.2.2)), (19, .ct (intC (max ↑xs.length ↑ys.length))), (20, .ct (intC s.1))])
    (fun s => [(0, .row 3 1 (ints (s.2.1 ++ List.replicate (max xs.length ys.length + 1 - s.1) 0)))])
    (fun s => max xs.length ys.length - s.1) (0, [], 0) ⟨Nat.zero_le _, rfl, OKL.nil, by decide, by decide, by simp [val, pre_zero]⟩ (by exact Entails.of rfl ⟨rfl, rfl, rfl, rfl, rfl, rfl, rfl, trivial⟩) ?_
  rintro ⟨i, zs, c⟩ ⟨hi, hz, hok, hc0, hc1, hv⟩
  dsimp only at hi hz hok hc0 hc1 hv ⊢
  (refine St.seq ?_; refine St.regionK (fun K hK => ?_); refine Ops.ibin ilss rfl rfl rfl rfl ?_; refine Ops.nil (hK _ _ ?_); refine Fin.then ?_; refine St.seq ?_)
  refine St.condP rfl (fun h => ?_) (fun h => ?_)
  · have b1 := bx.get i
    have b2 := by'.get i
    simp only [BB] at b1 b2
    (refine St.skip ?_; refine Fin.then ?_; refine St.seq ?_; refine St.block ?_; refine St.seq ?_; refine St.regionK (fun K hK => ?_); refine Ops.move rfl rfl rfl ?_; refine Ops.assign rfl rfl rfl ?_; refine Ops.nil (hK _ _ ?_); refine Fin.then ?_; refine St.seq ?_; refine St.regionK (fun K hK => ?_); refine Ops.move rfl rfl rfl ?_; refine Ops.move rfl rfl rfl ?_)
    refine Ops.call goat (at_ok xs i (by omega)) rfl rfl rfl rfl ?_
    (refine Ops.move rfl rfl rfl ?_; refine Ops.move rfl rfl rfl ?_)
    refine Ops.call goat (at_ok ys i (by omega)) rfl rfl rfl rfl ?_
    rw [Int.toNat_natCast]
    (refine Ops.ibin (iadd (by omega) (by omega)) rfl rfl rfl rfl ?_; refine Ops.move rfl rfl rfl ?_; refine Ops.ibin (iadd (by omega) (by omega)) rfl rfl rfl rfl ?_; refine Ops.assign rfl rfl rfl ?_; refine Ops.nil (hK _ _ ?_); refine Fin.then ?_; refine St.regionK (fun K hK => ?_); refine Ops.move rfl rfl rfl ?_; refine Ops.move rfl rfl rfl ?_; refine Ops.move rfl rfl rfl ?_; refine Ops.ibin iand30 rfl rfl rfl rfl ?_; refine Ops.move rfl rfl rfl ?_; refine Ops.ibin ishr30 rfl rfl rfl rfl ?_)
    refine Ops.idxR (max xs.length ys.length + 1) rfl rfl rfl (by simp; omega) rfl sNat (by omega) (by omega) rfl ?_
    refine Ops.st1A rfl rfl rfl rfl rfl zInt (by simp [Ent.cs]; omega) ?_
    simp only [Ent.setc, ints_set]
    (refine Ops.assign rfl rfl rfl ?_; refine Ops.nil (hK _ _ ?_); refine Fin.then ?_; refine St.regionK (fun K hK => ?_); refine Ops.ibin (iadd (by omega) (by omega)) rfl rfl rfl rfl ?_; refine Ops.move rfl rfl rfl ?_; refine Ops.nil (hK _ _ ?_); refine Fin.thenN ?_)
    refine Fin.next (i + 1, zs ++ [(xs.getD i 0 + ys.getD i 0 + c) % 1073741824], (xs.getD i 0 + ys.getD i 0 + c) / 1073741824) (by dsimp only; omega) ⟨by dsimp only; omega, by simp [hz], ?_, ?_, ?_, ?_⟩ ?_
    all_goals dsimp only
    · exact hok.append (OKL.cons (by simp only [BB]; omega) OKL.nil)
    · omega
    · omega
    · rw [val_append, hz, pre_succ, pre_succ]
      have e := Int.mul_ediv_add_emod (xs.getD i 0 + ys.getD i 0 + c) 1073741824
      simp only [val, BB] at *
      generalize (xs.getD i 0 + ys.getD i 0 + c) / 1073741824 = q at *
      generalize (xs.getD i 0 + ys.getD i 0 + c) % 1073741824 = m at *
      grind
    · refine Entails.of ?_ ⟨rfl, rfl, rfl, rfl, rfl, rfl, by simp only [Int.natCast_add]; rfl, trivial⟩
      have e1 : max xs.length ys.length + 1 - i = (max xs.length ys.length - i) + 1 := by omega
      have e2 : max xs.length ys.length + 1 - (i + 1) = max xs.length ys.length - i := by omega
      have e3 : (i : Int).toNat * 1 = zs.length := by omega
      rw [e1, e2, e3, set_snoc]; rfl
  · (refine St.exit ?_; refine Fin.then ?_; refine St.seq ?_; refine St.regionK (fun K hK => ?_); refine Ops.move rfl rfl rfl ?_; refine Ops.move rfl rfl rfl ?_; refine Ops.move rfl rfl rfl ?_)
    have hi' : i = max xs.length ys.length := by omega
    have e1 : max xs.length ys.length + 1 - i = 0 + 1 := by omega
    refine Ops.idxR (max xs.length ys.length + 1) rfl rfl rfl (by simp; omega) rfl sNat (by omega) (by omega) rfl ?_
    refine Ops.st1A rfl rfl rfl rfl rfl zInt (by simp [Ent.cs]; omega) ?_
    simp only [Ent.setc, ints_set]
    have e3 : (max (xs.length : Int) ys.length).toNat * 1 = zs.length := by omega
    rw [e3, e1, set_snoc]
    (refine Ops.nil (hK _ _ ?_); refine Fin.then ?_; refine St.seq ?_; refine St.regionK (fun K hK => ?_); refine Ops.move rfl rfl rfl ?_)
    refine Ops.freeze 0 _ rfl (ints_frozen _ _) noBor_sub ?_
    refine Ops.call goresult (result_ok _ (by simp; omega)) rfl rfl rfl rfl ?_
    have e4 : trimL (zs ++ [c] ++ List.replicate 0 0) = limbs (val xs + val ys).toNat := by
      have h1 : OKL (zs ++ [c]) := hok.append (OKL.cons (by simp only [BB]; omega) OKL.nil)
      simp only [List.replicate_zero, List.append_nil]
      rw [trim_limbs h1, val_append, hz]
      rw [pre_all (by omega), pre_all (by omega)] at hv
      congr 2
      simp only [val]; grind
    rw [e4]
    (refine Ops.extract rfl rfl rfl rfl ?_; refine Ops.extract rfl rfl rfl rfl ?_; refine Ops.assign rfl rfl rfl ?_; refine Ops.assign rfl rfl rfl ?_; refine Ops.nil (hK _ _ ?_); refine Fin.then ?_; refine St.ret ?_)
    refine Fin.ret [_, _] rfl (AllRes.tmp rfl (AllRes.tmp rfl AllRes.nil)) rfl rfl
end Go.Proofs.Ytgpkpmhdfcopgaa
