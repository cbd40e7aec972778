/-
  Walks: routescoperef02.Split, Int.
-/
import Derived.Test.YtgpkpmhdfcopgaaQ3
import Derived.Test.YtgpkpmhdfcopgaaN15
namespace Go.Proofs.Ytgpkpmhdfcopgaa
open Go.Own Go.Limbs
attribute [local irreducible] St Ops Go.Own.Fin Ok

theorem cmpI_le {a b : Int} : cmpI a b ≤ 0 ↔ a ≤ b := by unfold cmpI; split <;> (try split) <;> omega
theorem rTimes_one (b m : Nat) (h0 : 0 < m) (h1 : m < 1073741824) (hl : (limbs b).length ≤ 100000) : Ok Try.prog 61 [natC b, .fr (sliceT 1 [[intC m]])] (natC (b * m)) := by
  have h := rTimes_ok b m (by rw [limbs_one h0 h1]; simp; omega)
  have e : natC m = .fr (sliceT 1 [[intC m]]) := by show intsC (limbs m) = _; rw [limbs_one h0 h1]; rfl
  rw [← e]; exact h
theorem split_step {v b r R A p x P d : Int} (K : Int) (hR : R = r * K + x) (hv : v * b + r * (P * K) = A - (p + x * P)) : (v + d * P) * b + (R - b * d) * P = A - p := by
  subst hR; grind

theorem len_lt_mul {R b k : Nat} (h : (limbs b).length ≤ k) (hR : R < b * 1073741824) : (limbs R).length ≤ k + 1 := by
  refine limbs_length_le ?_
  rw [Nat.pow_succ]
  exact Nat.lt_trans hR (Nat.mul_lt_mul_of_pos_right (lt_of_limbs_length h) (by decide))

set_option maxHeartbeats 4000000 in
theorem rSplit_ok (a b : Nat) (hb : 0 < b) (la : (limbs a).length ≤ 10000) (lb : (limbs b).length ≤ 10000) : Ok Try.prog 36 [natC a, natC b] (.fr (tupT [natC (a / b), natC (a % b)])) := by
  refine Ok.enter Try.func36 rfl _ Try.ntmps36 rfl ?_
  intro S w
  (refine St.seq ?_; refine St.regionK (fun K hK => ?_); refine Ops.assign rfl rfl rfl ?_; refine Ops.assign rfl rfl rfl ?_; refine Ops.nil (hK _ _ ?_); clear hK K; refine Fin.then ?_; refine St.seq ?_; refine St.regionK (fun K hK => ?_); refine Ops.move rfl rfl rfl ?_; refine Ops.lenF rfl rfl (by with_reducible first | exact sNat.und | exact sInts.und) (List.length_map ..) rfl ?_)
  refine Ops.make 0 (limbs a).length rfl rfl rfl rfl (by with_reducible exact sNat) (by omega) (by omega) rfl rfl rfl ?_
  rw [ints_made]
  (refine Ops.assign rfl rfl rfl ?_; refine Ops.nil (hK _ _ ?_); clear hK K; refine Fin.then ?_; refine St.seq ?_; refine St.regionK (fun K hK => ?_); refine Ops.assign rfl rfl rfl ?_; refine Ops.nil (hK _ _ ?_); clear hK K; refine Fin.then ?_; refine St.seq ?_; refine St.seq ?_; refine St.regionK (fun K hK => ?_); refine Ops.move rfl rfl rfl ?_; refine Ops.lenF rfl rfl (by with_reducible first | exact sNat.und | exact sInts.und) (List.length_map ..) rfl ?_; refine Ops.ibin (isub (by omega) (by omega)) rfl rfl rfl rfl ?_; refine Ops.assign rfl rfl rfl ?_; refine Ops.nil (hK _ _ ?_); clear hK K; refine Fin.then ?_; refine St.block ?_)
  refine St.asNil 7 1 rfl ?_
  refine St.loop (α := Nat × List Int × Nat) (fun s => s.1 ≤ (limbs a).length ∧ s.2.1.length = (limbs a).length ∧ OKL s.2.1 ∧ (∀ j, j < s.1 → s.2.1.getD j 0 = 0) ∧ s.2.2 < b ∧ val s.2.1 * b + s.2.2 * BB ^ s.1 = val (limbs a) - pre (limbs a) s.1)
    (fun s => [(0, .ct (natC a)), (1, .ct (natC b)), (6, .own 0), (7, .ct (natC s.2.2)), (8, .ct (intC ((s.1 : Int) - 1)))])
    (fun s => [(0, .row 3 1 (ints s.2.1))]) (fun s => s.1) ((limbs a).length, List.replicate (limbs a).length 0, 0) ⟨Nat.le_refl _, by simp, OKL.zeros _, ?_, hb, ?_⟩ (by exact Entails.of rfl ⟨rfl, rfl, rfl, by rw [natC_zero]; rfl, rfl, trivial⟩) ?_
  · intro j _; simp [List.getD_eq_getElem?_getD, List.getElem?_replicate]; split <;> rfl
  · dsimp only; rw [val_zeros, pre_all (Nat.le_refl _)]; simp
  rintro ⟨q, zs, rr⟩ ⟨hq, hzl, hok, hz, hrb, hv⟩
  dsimp only at hq hzl hok hz hrb hv ⊢
  (refine St.seq ?_; refine St.seq ?_; refine St.regionK (fun K hK => ?_); refine Ops.move rfl rfl rfl ?_; refine Ops.ibin igeq rfl rfl rfl rfl ?_; refine Ops.nil (hK _ _ ?_); clear hK K; refine Fin.then ?_)
  refine St.condP rfl (fun h => ?_) (fun h => ?_)
  · obtain ⟨i, rfl⟩ : ∃ i, q = i + 1 := ⟨q - 1, by omega⟩
    have e1 : (((i + 1 : Nat) : Int) - 1) = (i : Int) := by omega
    have e2 : (i : Int).toNat = i := Int.toNat_natCast i
    have e3 : (i : Int).toNat * 1 = i := by omega
    have bx := (limbs_ok a).get i
    simp only [BB] at bx
    obtain ⟨R, hR⟩ : ∃ R : Nat, (R : Int) = rr * 1073741824 + (limbs a).getD i 0 := ⟨((rr : Int) * 1073741824 + (limbs a).getD i 0).toNat, by omega⟩
    have lrr : (limbs rr).length ≤ 10000 := Nat.le_trans (limbs_len_mono (Nat.le_of_lt hrb)) lb
    have eT : trimL ((limbs a).getD i 0 :: limbs rr) = limbs R := by
      rw [trim_limbs (OKL.cons (by simp only [BB]; omega) (limbs_ok rr))]
      simp only [val]; rw [val_limbs]; congr 1; simp only [BB]; omega
    have hRb : R < b * 1073741824 := by
      have h1 : (rr + 1) * 1073741824 ≤ b * 1073741824 := Nat.mul_le_mul_right _ (by omega)
      omega
    have lR : (limbs R).length ≤ 10001 := len_lt_mul lb hRb
    rw [pre_succ, Int.pow_succ] at hv
    rw [e1]
    (refine St.skip ?_; refine Fin.then ?_; refine St.seq ?_; refine St.block ?_; refine St.seq ?_; refine St.regionK (fun K hK => ?_); refine Ops.move rfl rfl rfl ?_; refine Ops.move rfl rfl rfl ?_; refine Ops.idxF rfl rfl rfl (by with_reducible first | exact sNat | exact sInts) (by omega) (ints_at (by omega) (by omega)) rfl ?_; refine Ops.ld1F rfl rfl rfl (by with_reducible first | exact lInt | exact lNat | exact lBool | exact lInts) rfl ?_)
    rw [e2]
    refine Ops.lit1E 1 rfl rfl (by with_reducible exact sNat) rfl rfl rfl rfl rfl ?_
    (refine Ops.move rfl rfl rfl ?_)
    refine Ops.append 1 (ints ((limbs a).getD i 0 :: limbs rr)) rfl rfl rfl rfl (by with_reducible exact sNat) rfl ?_ (by simp; omega) (by simp; omega) ?_ rfl ?_
    · rw [flat_one]; exact ints_ones _
    · rw [flat_one]; rfl
    refine Ops.freeze 1 _ rfl (ints_frozen _ _) noBor_sub ?_
    refine Ops.call gorTrim (rTrim_ok _ (by simp; omega)) rfl rfl rfl rfl ?_
    rw [eT]
    (refine Ops.assign rfl rfl rfl ?_; refine Ops.nil (hK _ _ ?_); clear hK K; refine Fin.then ?_; refine St.seq ?_; refine St.seq ?_; refine St.regionK (fun K hK => ?_); refine Ops.move rfl rfl rfl ?_; refine Ops.move rfl rfl rfl ?_)
    refine Ops.call gorCompare (rCompare_ok R b (by omega) (by omega)) rfl rfl rfl rfl ?_
    (refine Ops.ibin ilss rfl rfl rfl rfl ?_; refine Ops.nil (hK _ _ ?_); clear hK K; refine Fin.then ?_)
    refine St.condP rfl (fun h2 => ?_) (fun h2 => ?_)
    · rw [cmpI_neg] at h2
      (refine St.exit ?_; refine Fin.then ?_; refine St.regionK (fun K hK => ?_); refine Ops.move rfl rfl rfl ?_; refine Ops.ibin (isub (by omega) (by omega)) rfl rfl rfl rfl ?_; refine Ops.assign rfl rfl rfl ?_; refine Ops.nil (hK _ _ ?_); clear hK K; refine Fin.thenN ?_)
      refine Fin.next (i, zs, R) (by dsimp only; omega) ⟨by dsimp only; omega, hzl, hok, fun j hj => hz j (by dsimp only at hj; omega), by dsimp only; omega, ?_⟩ (by exact Entails.of rfl ⟨rfl, rfl, rfl, rfl, rfl, trivial⟩)
      dsimp only
      have := split_step (d := 0) BB hR hv
      simpa using this
    · rw [cmpI_neg] at h2
      (refine St.skip ?_; refine Fin.then ?_; refine St.seq ?_; refine St.regionK (fun K hK => ?_); refine Ops.assign rfl rfl rfl ?_; refine Ops.assign rfl rfl rfl ?_; refine Ops.nil (hK _ _ ?_); clear hK K; refine Fin.then ?_; refine St.seq ?_; refine St.block ?_)
      refine St.loop (α := Nat × Nat) (fun s => 1 ≤ s.1 ∧ s.1 ≤ s.2 ∧ s.2 ≤ 1073741823 ∧ b * s.1 ≤ R ∧ R < b * (s.2 + 1))
        (fun s => [(0, .ct (natC a)), (1, .ct (natC b)), (6, .own 0), (7, .ct (natC R)), (8, .ct (intC i)), (9, .ct (intC s.1)), (10, .ct (intC s.2))])
        (fun _ => [(0, .row 3 1 (ints zs))]) (fun s => s.2 - s.1) (1, 1073741823) ⟨Nat.le_refl _, by decide, Nat.le_refl _, by omega, hRb⟩ (by exact Entails.of rfl ⟨rfl, rfl, rfl, rfl, rfl, rfl, rfl, trivial⟩) ?_
      rintro ⟨lo, hi⟩ ⟨k1, k2, k3, k4, k5⟩
      dsimp only at k1 k2 k3 k4 k5 ⊢
      (refine St.seq ?_; refine St.seq ?_; refine St.regionK (fun K hK => ?_); refine Ops.move rfl rfl rfl ?_; refine Ops.move rfl rfl rfl ?_; refine Ops.ibin ilss rfl rfl rfl rfl ?_; refine Ops.nil (hK _ _ ?_); clear hK K; refine Fin.then ?_)
      refine St.condP rfl (fun h3 => ?_) (fun h3 => ?_)
      · obtain ⟨m, hm⟩ : ∃ m : Nat, m = (lo + hi + 1) / 2 := ⟨_, rfl⟩
        have em : ((lo : Int) + hi + 1) / 2 = (m : Int) := by omega
        have lbm : (limbs (b * m)).length ≤ 10001 := Nat.le_trans limbs_mul_len (by
          have := limbs_length_le (n := m) (k := 1) (by omega)
          omega)
        (refine St.skip ?_; refine Fin.then ?_; refine St.block ?_; refine St.seq ?_; refine St.regionK (fun K hK => ?_); refine Ops.move rfl rfl rfl ?_; refine Ops.move rfl rfl rfl ?_; refine Ops.ibin (iadd (by omega) (by omega)) rfl rfl rfl rfl ?_; refine Ops.ibin (iadd (by omega) (by omega)) rfl rfl rfl rfl ?_; refine Ops.ibin (iquo (by omega) (by omega) (by omega)) rfl rfl rfl rfl ?_; refine Ops.assign rfl rfl rfl ?_; refine Ops.nil (hK _ _ ?_); clear hK K; refine Fin.then ?_; refine St.seq ?_; refine St.regionK (fun K hK => ?_); refine Ops.move rfl rfl rfl ?_; refine Ops.move rfl rfl rfl ?_)
        rw [em]
        skip
        refine Ops.lit1 rfl rfl (by with_reducible exact sNat) rfl rfl rfl ?_
        refine Ops.call gorTimes (rTimes_one b m (by omega) (by omega) (by omega)) rfl rfl rfl rfl ?_
        (refine Ops.move rfl rfl rfl ?_)
        refine Ops.call gorCompare (rCompare_ok (b * m) R (by omega) (by omega)) rfl rfl rfl rfl ?_
        (refine Ops.ibin ileq rfl rfl rfl rfl ?_; refine Ops.nil (hK _ _ ?_); clear hK K; refine Fin.then ?_)
        refine St.condP rfl (fun h4 => ?_) (fun h4 => ?_)
        · rw [cmpI_le] at h4
          (refine St.regionK (fun K hK => ?_); refine Ops.move rfl rfl rfl ?_; refine Ops.assign rfl rfl rfl ?_; refine Ops.nil (hK _ _ ?_); clear hK K; refine Fin.blockN ?_; refine Fin.thenN ?_)
          refine Fin.next (m, hi) (by dsimp only; omega) ⟨by dsimp only; omega, by dsimp only; omega, k3, by dsimp only; omega, k5⟩ (by exact Entails.of rfl ⟨rfl, rfl, rfl, rfl, rfl, rfl, rfl, trivial⟩)
        · rw [cmpI_le] at h4
          (refine St.regionK (fun K hK => ?_); refine Ops.move rfl rfl rfl ?_; refine Ops.ibin (isub (by omega) (by omega)) rfl rfl rfl rfl ?_; refine Ops.assign rfl rfl rfl ?_; refine Ops.nil (hK _ _ ?_); clear hK K; refine Fin.blockN ?_; refine Fin.thenN ?_)
          refine Fin.next (lo, m - 1) (by dsimp only; omega) ⟨k1, by dsimp only; omega, by dsimp only; omega, k4, ?_⟩ (by exact Entails.of rfl ⟨rfl, rfl, rfl, rfl, rfl, rfl, by rw [show ((m - 1 : Nat) : Int) = (m : Int) - 1 by omega]; rfl, trivial⟩)
          dsimp only
          rw [show m - 1 + 1 = m by omega]; omega
      · have h6 : lo = hi := by omega
        subst h6
        have lbm : (limbs (b * lo)).length ≤ 10001 := Nat.le_trans limbs_mul_len (by
          have := limbs_length_le (n := lo) (k := 1) (by omega)
          omega)
        (refine St.exit ?_; refine Fin.then ?_; refine St.seq ?_; refine St.regionK (fun K hK => ?_); refine Ops.move rfl rfl rfl ?_; refine Ops.move rfl rfl rfl ?_; refine Ops.move rfl rfl rfl ?_)
        refine Ops.idxR (limbs a).length rfl rfl rfl (by simp [ints]; omega) rfl (by with_reducible exact sNat) (by omega) (by omega) rfl ?_
        rw [e3]
        refine Ops.st1A rfl rfl rfl rfl rfl (by with_reducible exact zInt) (by simp [Ent.cs, ints]; omega) ?_
        simp only [Ent.setc, ints_set]
        (refine Ops.nil (hK _ _ ?_); clear hK K; refine Fin.then ?_; refine St.regionK (fun K hK => ?_); refine Ops.move rfl rfl rfl ?_; refine Ops.move rfl rfl rfl ?_; refine Ops.move rfl rfl rfl ?_)
        refine Ops.lit1 rfl rfl (by with_reducible exact sNat) rfl rfl rfl ?_
        refine Ops.call gorTimes (rTimes_one b lo (by omega) (by omega) (by omega)) rfl rfl rfl rfl ?_
        refine Ops.call gorLess (rLess_ok R (b * lo) k4 (by omega)) rfl rfl rfl rfl ?_
        (refine Ops.assign rfl rfl rfl ?_; refine Ops.nil (hK _ _ ?_); clear hK K; refine Fin.then ?_; refine St.regionK (fun K hK => ?_); refine Ops.move rfl rfl rfl ?_; refine Ops.ibin (isub (by omega) (by omega)) rfl rfl rfl rfl ?_; refine Ops.assign rfl rfl rfl ?_; refine Ops.nil (hK _ _ ?_); clear hK K; refine Fin.thenN ?_)
        refine Fin.next (i, zs.set i (lo : Int), R - b * lo) (by dsimp only; omega) ⟨by dsimp only; omega, by simp [hzl], ?_, ?_, ?_, ?_⟩ (by exact Entails.of rfl ⟨rfl, rfl, rfl, rfl, rfl, trivial⟩)
        all_goals dsimp only
        · exact hok.set _ (by simp only [BB]; omega)
        · intro j hj; rw [getD_set (by omega), if_neg (by omega)]; exact hz j (by omega)
        · rw [Nat.mul_add] at k5; omega
        · rw [val_set (by omega), hz i (by omega), Int.sub_zero, show ((R - b * lo : Nat) : Int) = (R : Int) - b * lo by rw [Int.natCast_sub k4, Int.natCast_mul]]
          exact split_step BB hR hv
  · have hq0 : q = 0 := by omega
    subst hq0
    have e4 : val zs * b + rr = a := by rw [pre_zero, val_limbs] at hv; simpa using hv
    have hvz := val_nonneg hok
    obtain ⟨Q, hQ⟩ : ∃ Q : Nat, val zs = Q := ⟨(val zs).toNat, by omega⟩
    rw [hQ] at e4
    have e4' : a = rr + Q * b := by
      have : ((Q * b + rr : Nat) : Int) = a := by rw [Int.natCast_add, Int.natCast_mul]; exact e4
      omega
    have e5 : a / b = Q ∧ a % b = rr := by
      rw [e4']
      constructor
      · rw [Nat.add_mul_div_right _ _ hb, Nat.div_eq_of_lt hrb]; omega
      · rw [Nat.add_mul_mod_self_right, Nat.mod_eq_of_lt hrb]
    refine St.freeze 0 _ rfl (ints_frozen _ _) noBor_sub ?_
    (refine St.exit ?_; refine Fin.then ?_; refine St.seq ?_; refine St.regionK (fun K hK => ?_); refine Ops.move rfl rfl rfl ?_)
    refine Ops.call gorTrim (rTrim_ok zs (by omega)) rfl rfl rfl rfl ?_
    rw [trim_limbs hok, hQ, Int.toNat_natCast]
    (refine Ops.move rfl rfl rfl ?_; refine Ops.assign rfl rfl rfl ?_; refine Ops.assign rfl rfl rfl ?_; refine Ops.nil (hK _ _ ?_); clear hK K; refine Fin.then ?_; refine St.ret ?_)
    refine Fin.ret [_, _] rfl (AllRes.tmp rfl (AllRes.tmp rfl AllRes.nil)) (by rw [e5.1, e5.2]; rfl) rfl
theorem gorSplit : InGo Try.prog 36 := InGo.of Try.func36 (by kernel_rfl) (by kernel_rfl)

end Go.Proofs.Ytgpkpmhdfcopgaa
