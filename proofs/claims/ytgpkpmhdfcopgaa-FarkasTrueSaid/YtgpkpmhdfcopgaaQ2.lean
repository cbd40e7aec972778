/-
  Walks: routescoperef02.Less, half, Times.
-/
import Derived.Test.YtgpkpmhdfcopgaaQ1
namespace Go.Proofs.Ytgpkpmhdfcopgaa
open Go.Own Go.Limbs
attribute [local irreducible] St Ops Go.Own.Fin Ok

theorem val_sub_done {a b : Nat} {zs : List Int} {c : Int} (hok : OKL zs) (hzl : zs.length = (limbs a).length) (hb : b ≤ a) (hc0 : 0 ≤ c) (hc1 : c ≤ 1)
    (hv : val zs - c * BB ^ (limbs a).length = pre (limbs a) (limbs a).length - pre (limbs b) (limbs a).length) : trimL zs = limbs (a - b) := by
  have hlb := limbs_len_mono hb
  rw [trim_limbs hok]
  rw [pre_all (Nat.le_refl _), pre_all hlb, val_limbs, val_limbs] at hv
  have hp : 0 < BB ^ (limbs a).length := Int.pow_pos (by decide)
  have h1 := pre_bd hok (limbs a).length
  rw [pre_all (by omega)] at h1
  have hc : c = 0 := by
    rcases Int.lt_or_le 0 c with hc | hc
    · have : c = 1 := by omega
      subst this; rw [Int.one_mul] at hv; omega
    · omega
  subst hc
  rw [Int.zero_mul] at hv
  congr 1; omega

theorem less_step {v c P A B x y d c' K : Int} (h : v - c * P = A - B) (e : x - y - c = d - c' * K) : v + P * d - c' * (P * K) = (A + x * P) - (B + y * P) := by
  have h2 : P * (x - y - c) = P * (d - c' * K) := by rw [e]
  grind

set_option maxHeartbeats 2000000 in
theorem rLess_ok (a b : Nat) (hb : b ≤ a) (hx : (limbs a).length ≤ 1000000) : Ok Try.prog 62 [natC a, natC b] (natC (a - b)) := by
  refine Ok.enter Try.func62 rfl _ Try.ntmps62 rfl ?_
  intro S w
  (refine St.seq ?_; refine St.regionK (fun K hK => ?_); refine Ops.assign rfl rfl rfl ?_; refine Ops.nil (hK _ _ ?_); clear hK K; refine Fin.then ?_; refine St.seq ?_; refine St.regionK (fun K hK => ?_); refine Ops.assign rfl rfl rfl ?_; refine Ops.nil (hK _ _ ?_); clear hK K; refine Fin.then ?_; refine St.seq ?_; refine St.regionK (fun K hK => ?_); refine Ops.assign rfl rfl rfl ?_; refine Ops.nil (hK _ _ ?_); clear hK K; refine Fin.then ?_; refine St.seq ?_; refine St.seq ?_; refine St.regionK (fun K hK => ?_); refine Ops.assign rfl rfl rfl ?_; refine Ops.nil (hK _ _ ?_); clear hK K; refine Fin.then ?_; refine St.block ?_)
  refine St.nilRow 5 0 3 1 rfl rfl rfl ?_
  skip
  refine St.loop (α := Nat × List Int × Int) (fun s => s.1 ≤ (limbs a).length ∧ s.2.1.length = s.1 ∧ OKL s.2.1 ∧ 0 ≤ s.2.2 ∧ s.2.2 ≤ 1 ∧ val s.2.1 - s.2.2 * BB ^ s.1 = pre (limbs a) s.1 - pre (limbs b) s.1)
    (fun s => [(0, .ct (natC a)), (1, .ct (natC b)), (5, .own 0), (6, .ct (intC s.2.2)), (7, .ct (intC s.1))])
    (fun s => [(0, .row 3 1 (ints s.2.1))])
    (fun s => (limbs a).length - s.1) (0, [], 0) ⟨Nat.zero_le _, rfl, OKL.nil, by decide, by decide, by simp [val, pre_zero]⟩ (by exact Entails.of rfl ⟨rfl, rfl, rfl, rfl, rfl, trivial⟩) ?_
  rintro ⟨i, zs, c⟩ ⟨hi, hz, hok, hc0, hc1, hv⟩
  dsimp only at hi hz hok hc0 hc1 hv ⊢
  (refine St.seq ?_; refine St.seq ?_; refine St.regionK (fun K hK => ?_); refine Ops.move rfl rfl rfl ?_; refine Ops.move rfl rfl rfl ?_; refine Ops.lenF rfl rfl (by with_reducible first | exact sNat.und | exact sInts.und) (List.length_map ..) rfl ?_; refine Ops.ibin ilss rfl rfl rfl rfl ?_; refine Ops.nil (hK _ _ ?_); clear hK K; refine Fin.then ?_)
  refine St.condP rfl (fun h => ?_) (fun h => ?_)
  · have b1 := (limbs_ok a).get i
    have b2 := (limbs_ok b).get i
    simp only [BB] at b1 b2
    have e2 : (i : Int).toNat = i := Int.toNat_natCast i
    (refine St.skip ?_; refine Fin.then ?_; refine St.seq ?_; refine St.block ?_; refine St.seq ?_)
    refine St.drawK (by with_reducible exact mixed) 11 (.p 0 (.p 1 (.p 2 (.p 4 (.p 5 (.p 8 (.f 3 (.m 6 (.p 7 (.p 9 (.p 10 .done))))))))))) (by kernel_rfl) (fun K hK => ?_)
    (refine Ops.move rfl rfl rfl ?_; refine Ops.move rfl rfl rfl ?_; refine Ops.idxF rfl rfl rfl (by with_reducible first | exact sNat | exact sInts) (by omega) (ints_at (by omega) (by omega)) rfl ?_; refine Ops.move rfl rfl rfl ?_; refine Ops.move rfl rfl rfl ?_; refine Ops.move rfl rfl rfl ?_; refine Ops.ld1F rfl rfl rfl (by with_reducible first | exact lInt | exact lNat | exact lBool | exact lInts) rfl ?_)
    rw [e2]
    skip
    refine Ops.call gorlimb (rlimb_ok (limbs b) i) rfl rfl rfl rfl ?_
    (refine Ops.ibin (isub (by omega) (by omega)) rfl rfl rfl rfl ?_; refine Ops.ibin (isub (by omega) (by omega)) rfl rfl rfl rfl ?_; refine Ops.assign rfl rfl rfl ?_; refine Ops.nil (hK _ _ ?_); clear hK K; refine Fin.then ?_; refine St.seq ?_; refine St.regionK (fun K hK => ?_); refine Ops.assign rfl rfl rfl ?_; refine Ops.nil (hK _ _ ?_); clear hK K; refine Fin.then ?_; refine St.seq ?_; refine St.seq ?_; refine St.regionK (fun K hK => ?_); refine Ops.move rfl rfl rfl ?_; refine Ops.ibin ilss rfl rfl rfl rfl ?_; refine Ops.nil (hK _ _ ?_); clear hK K; refine Fin.then ?_)
    refine St.condP rfl (fun h2 => ?_) (fun h2 => ?_)
    · (refine St.seq ?_; refine St.regionK (fun K hK => ?_); refine Ops.move rfl rfl rfl ?_; refine Ops.ibin (iadd (by omega) (by omega)) rfl rfl rfl rfl ?_; refine Ops.assign rfl rfl rfl ?_; refine Ops.nil (hK _ _ ?_); clear hK K; refine Fin.then ?_; refine St.regionK (fun K hK => ?_); refine Ops.assign rfl rfl rfl ?_; refine Ops.nil (hK _ _ ?_); clear hK K; refine Fin.then ?_; refine St.regionK (fun K hK => ?_); refine Ops.move rfl rfl rfl ?_; refine Ops.move rfl rfl rfl ?_)
      refine Ops.lit1 rfl rfl (by with_reducible exact sNat) rfl rfl rfl ?_
      refine Ops.append1 zs.length (ints (zs ++ [(limbs a).getD i 0 - (limbs b).getD i 0 - c + 1073741824])) rfl rfl rfl rfl (by with_reducible exact sNat) (by simp [ints]) rfl (by omega) (by omega) (by simp [ints]) rfl ?_
      (refine Ops.assign rfl rfl rfl ?_; refine Ops.nil (hK _ _ ?_); clear hK K; refine Fin.then ?_; refine St.regionK (fun K hK => ?_); refine Ops.move rfl rfl rfl ?_; refine Ops.ibin (iadd (by omega) (by omega)) rfl rfl rfl rfl ?_; refine Ops.assign rfl rfl rfl ?_; refine Ops.nil (hK _ _ ?_); clear hK K; refine Fin.thenN ?_)
      refine Fin.next (i + 1, zs ++ [(limbs a).getD i 0 - (limbs b).getD i 0 - c + 1073741824], 1) (by dsimp only; omega) ⟨by dsimp only; omega, by simp [hz], ?_, by show (0 : Int) ≤ 1; decide, by show (1 : Int) ≤ 1; decide, ?_⟩ (by exact Entails.of rfl ⟨rfl, rfl, rfl, rfl, by simp only [Int.natCast_add]; rfl, trivial⟩)
      all_goals dsimp only
      · exact hok.append (OKL.cons (by simp only [BB]; omega) OKL.nil)
      · rw [val_append, hz, pre_succ, pre_succ, Int.pow_succ]
        simp only [val, Int.mul_zero, Int.add_zero]
        exact less_step hv (by simp only [BB]; omega)
    · (refine St.skip ?_; refine Fin.then ?_; refine St.regionK (fun K hK => ?_); refine Ops.move rfl rfl rfl ?_; refine Ops.move rfl rfl rfl ?_)
      refine Ops.lit1 rfl rfl (by with_reducible exact sNat) rfl rfl rfl ?_
      refine Ops.append1 zs.length (ints (zs ++ [(limbs a).getD i 0 - (limbs b).getD i 0 - c])) rfl rfl rfl rfl (by with_reducible exact sNat) (by simp [ints]) rfl (by omega) (by omega) (by simp [ints]) rfl ?_
      (refine Ops.assign rfl rfl rfl ?_; refine Ops.nil (hK _ _ ?_); clear hK K; refine Fin.then ?_; refine St.regionK (fun K hK => ?_); refine Ops.move rfl rfl rfl ?_; refine Ops.ibin (iadd (by omega) (by omega)) rfl rfl rfl rfl ?_; refine Ops.assign rfl rfl rfl ?_; refine Ops.nil (hK _ _ ?_); clear hK K; refine Fin.thenN ?_)
      refine Fin.next (i + 1, zs ++ [(limbs a).getD i 0 - (limbs b).getD i 0 - c], 0) (by dsimp only; omega) ⟨by dsimp only; omega, by simp [hz], ?_, by show (0 : Int) ≤ 0; decide, by show (0 : Int) ≤ 1; decide, ?_⟩ (by exact Entails.of rfl ⟨rfl, rfl, rfl, rfl, by simp only [Int.natCast_add]; rfl, trivial⟩)
      all_goals dsimp only
      · exact hok.append (OKL.cons (by simp only [BB]; omega) OKL.nil)
      · rw [val_append, hz, pre_succ, pre_succ, Int.pow_succ]
        simp only [val, Int.mul_zero, Int.add_zero]
        exact less_step hv (by simp only [BB]; omega)
  · have hi' : i = (limbs a).length := by omega
    subst hi'
    have e4 := val_sub_done hok hz hb hc0 hc1 hv
    refine St.freeze 0 _ rfl (ints_frozen _ _) noBor_sub ?_
    (refine St.exit ?_; refine Fin.then ?_; refine St.seq ?_; refine St.regionK (fun K hK => ?_); refine Ops.move rfl rfl rfl ?_)
    refine Ops.call gorTrim (rTrim_ok zs (by omega)) rfl rfl rfl rfl ?_
    rw [e4]
    (refine Ops.assign rfl rfl rfl ?_; refine Ops.nil (hK _ _ ?_); clear hK K; refine Fin.then ?_; refine St.ret ?_)
    refine Fin.ret [_] rfl (AllRes.tmp rfl AllRes.nil) rfl rfl
theorem gorLess : InGo Try.prog 62 := InGo.of Try.func62 (by kernel_rfl) (by kernel_rfl)

set_option maxHeartbeats 2000000 in
theorem rhalf_ok (a : Nat) (hl : (limbs a).length ≤ 1000000) : Ok Try.prog 80 [natC a] (natC (a / 2)) := by
  refine Ok.enter Try.func80 rfl _ Try.ntmps80 rfl ?_
  intro S w
  (refine St.seq ?_; refine St.regionK (fun K hK => ?_); refine Ops.assign rfl rfl rfl ?_; refine Ops.nil (hK _ _ ?_); clear hK K; refine Fin.then ?_; refine St.seq ?_; refine St.regionK (fun K hK => ?_); refine Ops.move rfl rfl rfl ?_; refine Ops.lenF rfl rfl (by with_reducible first | exact sNat.und | exact sInts.und) (List.length_map ..) rfl ?_)
  refine Ops.make 0 (limbs a).length rfl rfl rfl rfl (by with_reducible exact sNat) (by omega) (by omega) rfl rfl rfl ?_
  rw [ints_made]
  (refine Ops.assign rfl rfl rfl ?_; refine Ops.nil (hK _ _ ?_); clear hK K; refine Fin.then ?_; refine St.seq ?_; refine St.regionK (fun K hK => ?_); refine Ops.assign rfl rfl rfl ?_; refine Ops.nil (hK _ _ ?_); clear hK K; refine Fin.then ?_; refine St.seq ?_; refine St.seq ?_; refine St.regionK (fun K hK => ?_); refine Ops.move rfl rfl rfl ?_; refine Ops.lenF rfl rfl (by with_reducible first | exact sNat.und | exact sInts.und) (List.length_map ..) rfl ?_; refine Ops.ibin (isub (by omega) (by omega)) rfl rfl rfl rfl ?_; refine Ops.assign rfl rfl rfl ?_; refine Ops.nil (hK _ _ ?_); clear hK K; refine Fin.then ?_; refine St.block ?_)
  refine St.loop (α := Nat × List Int × Int) (fun s => s.1 ≤ (limbs a).length ∧ s.2.1.length = (limbs a).length ∧ OKL s.2.1 ∧ (∀ j, j < s.1 → s.2.1.getD j 0 = 0) ∧ 0 ≤ s.2.2 ∧ s.2.2 < 2 ∧ val s.2.1 * 2 + s.2.2 * BB ^ s.1 = val (limbs a) - pre (limbs a) s.1)
    (fun s => [(0, .ct (natC a)), (3, .own 0), (4, .ct (intC s.2.2)), (5, .ct (intC ((s.1 : Int) - 1)))])
    (fun s => [(0, .row 3 1 (ints s.2.1))]) (fun s => s.1) ((limbs a).length, List.replicate (limbs a).length 0, 0) ⟨Nat.le_refl _, by simp, OKL.zeros _, ?_, Int.le_refl _, by show (0 : Int) < 2; decide, ?_⟩ (by exact Entails.of rfl ⟨rfl, rfl, rfl, rfl, trivial⟩) ?_
  · intro j _; simp [List.getD_eq_getElem?_getD, List.getElem?_replicate]; split <;> rfl
  · dsimp only; rw [val_zeros, pre_all (Nat.le_refl _)]; simp
  rintro ⟨q, zs, rest⟩ ⟨hq, hzl, hok, hz, hr0, hr1, hv⟩
  dsimp only at hq hzl hok hz hr0 hr1 hv ⊢
  (refine St.seq ?_; refine St.seq ?_; refine St.regionK (fun K hK => ?_); refine Ops.move rfl rfl rfl ?_; refine Ops.ibin igeq rfl rfl rfl rfl ?_; refine Ops.nil (hK _ _ ?_); clear hK K; refine Fin.then ?_)
  refine St.condP rfl (fun h => ?_) (fun h => ?_)
  · obtain ⟨i, rfl⟩ : ∃ i, q = i + 1 := ⟨q - 1, by omega⟩
    have e1 : (((i + 1 : Nat) : Int) - 1) = (i : Int) := by omega
    have e2 : (i : Int).toNat = i := Int.toNat_natCast i
    have e3 : (i : Int).toNat * 1 = i := by omega
    have bx := (limbs_ok a).get i
    simp only [BB] at bx
    rw [e1]
    (refine St.skip ?_; refine Fin.then ?_; refine St.seq ?_; refine St.block ?_; refine St.seq ?_; refine St.regionK (fun K hK => ?_); refine Ops.move rfl rfl rfl ?_; refine Ops.move rfl rfl rfl ?_; refine Ops.idxF rfl rfl rfl (by with_reducible first | exact sNat | exact sInts) (by omega) (ints_at (by omega) (by omega)) rfl ?_; refine Ops.ld1F rfl rfl rfl (by with_reducible first | exact lInt | exact lNat | exact lBool | exact lInts) rfl ?_; refine Ops.move rfl rfl rfl ?_; refine Ops.ibin (imul (by omega) (by omega)) rfl rfl rfl rfl ?_)
    rw [e2]
    (refine Ops.ibin (iadd (by omega) (by omega)) rfl rfl rfl rfl ?_; refine Ops.assign rfl rfl rfl ?_; refine Ops.nil (hK _ _ ?_); clear hK K; refine Fin.then ?_; refine St.seq ?_; refine St.regionK (fun K hK => ?_); refine Ops.move rfl rfl rfl ?_; refine Ops.move rfl rfl rfl ?_; refine Ops.move rfl rfl rfl ?_; refine Ops.ibin (iquo (by omega) (by omega) (by omega)) rfl rfl rfl rfl ?_)
    rw [show (limbs a).getD i 0 + rest * 1073741824 = rest * 1073741824 + (limbs a).getD i 0 from Int.add_comm _ _]
    skip
    refine Ops.idxR (limbs a).length rfl rfl rfl (by simp [ints]; omega) rfl (by with_reducible exact sNat) (by omega) (by omega) rfl ?_
    rw [e3]
    refine Ops.st1A rfl rfl rfl rfl rfl (by with_reducible exact zInt) (by simp [Ent.cs, ints]; omega) ?_
    simp only [Ent.setc, ints_set]
    (refine Ops.nil (hK _ _ ?_); clear hK K; refine Fin.then ?_; refine St.regionK (fun K hK => ?_); refine Ops.move rfl rfl rfl ?_; refine Ops.ibin (irem (by omega) (by omega)) rfl rfl rfl rfl ?_; refine Ops.assign rfl rfl rfl ?_; refine Ops.nil (hK _ _ ?_); clear hK K; refine Fin.then ?_; refine St.regionK (fun K hK => ?_); refine Ops.move rfl rfl rfl ?_; refine Ops.ibin (isub (by omega) (by omega)) rfl rfl rfl rfl ?_; refine Ops.assign rfl rfl rfl ?_; refine Ops.nil (hK _ _ ?_); clear hK K; refine Fin.thenN ?_)
    refine Fin.next (i, zs.set i ((rest * 1073741824 + (limbs a).getD i 0) / 2), (rest * 1073741824 + (limbs a).getD i 0) % 2) (by dsimp only; omega) ⟨by dsimp only; omega, by simp [hzl], ?_, ?_, by dsimp only; omega, by dsimp only; omega, ?_⟩ (by exact Entails.of rfl ⟨rfl, rfl, rfl, rfl, trivial⟩)
    all_goals dsimp only
    · exact hok.set _ (by simp only [BB]; omega)
    · intro j hj; rw [getD_set (by omega), if_neg (by omega)]; exact hz j (by omega)
    · rw [val_set (by omega), hz i (by omega), Int.sub_zero]
      exact top_step hv
  · have hq0 : q = 0 := by omega
    subst hq0
    have e4 : val zs * 2 + rest = a := by rw [pre_zero, val_limbs] at hv; simpa using hv
    have e5 : (val zs).toNat = a / 2 := by omega
    refine St.freeze 0 _ rfl (ints_frozen _ _) noBor_sub ?_
    (refine St.exit ?_; refine Fin.then ?_; refine St.seq ?_; refine St.regionK (fun K hK => ?_); refine Ops.move rfl rfl rfl ?_)
    refine Ops.call gorTrim (rTrim_ok zs (by omega)) rfl rfl rfl rfl ?_
    rw [trim_limbs hok, e5]
    (refine Ops.assign rfl rfl rfl ?_; refine Ops.nil (hK _ _ ?_); clear hK K; refine Fin.then ?_; refine St.ret ?_)
    refine Fin.ret [_] rfl (AllRes.tmp rfl AllRes.nil) rfl rfl
theorem gorhalf : InGo Try.prog 80 := InGo.of Try.func80 (by kernel_rfl) (by kernel_rfl)

set_option maxHeartbeats 4000000 in
theorem rTimes_ok (a b : Nat) (hx : (limbs a).length + (limbs b).length ≤ 1000000) : Ok Try.prog 61 [natC a, natC b] (natC (a * b)) := by
  refine Ok.enter Try.func61 rfl _ Try.ntmps61 rfl ?_
  intro S w
  (refine St.seq ?_; refine St.regionK (fun K hK => ?_); refine Ops.assign rfl rfl rfl ?_; refine Ops.nil (hK _ _ ?_); clear hK K; refine Fin.then ?_; refine St.seq ?_; refine St.regionK (fun K hK => ?_); refine Ops.move rfl rfl rfl ?_; refine Ops.lenF rfl rfl (by with_reducible first | exact sNat.und | exact sInts.und) (List.length_map ..) rfl ?_; refine Ops.move rfl rfl rfl ?_; refine Ops.lenF rfl rfl (by with_reducible first | exact sNat.und | exact sInts.und) (List.length_map ..) rfl ?_; refine Ops.ibin (iadd (by omega) (by omega)) rfl rfl rfl rfl ?_)
  refine Ops.make 0 ((limbs a).length + (limbs b).length) rfl rfl rfl (by omega) (by with_reducible exact sNat) (by omega) (by omega) rfl rfl rfl ?_
  rw [ints_made]
  (refine Ops.assign rfl rfl rfl ?_; refine Ops.nil (hK _ _ ?_); clear hK K; refine Fin.then ?_; refine St.seq ?_; refine St.seq ?_; refine St.regionK (fun K hK => ?_); refine Ops.assign rfl rfl rfl ?_; refine Ops.nil (hK _ _ ?_); clear hK K; refine Fin.then ?_; refine St.block ?_)
  refine St.loop (α := Nat × List Int) (fun s => s.1 ≤ (limbs a).length ∧ s.2.length = (limbs a).length + (limbs b).length ∧ OKL s.2 ∧ (∀ j, s.1 + (limbs b).length ≤ j → s.2.getD j 0 = 0) ∧ val s.2 = pre (limbs a) s.1 * b)
    (fun s => [(0, .ct (natC a)), (1, .ct (natC b)), (5, .own 0), (6, .ct (intC s.1))])
    (fun s => [(0, .row 3 1 (ints s.2))])
    (fun s => (limbs a).length - s.1) (0, List.replicate ((limbs a).length + (limbs b).length) 0) ⟨Nat.zero_le _, by simp, OKL.zeros _, ?_, ?_⟩ (by exact Entails.of rfl ⟨rfl, rfl, rfl, rfl, trivial⟩) ?_
  · intro j _; simp [List.getD_eq_getElem?_getD, List.getElem?_replicate]; split <;> rfl
  · rw [pre_zero, val_zeros]; simp
  rintro ⟨i, out⟩ ⟨hi, hlen, hok, hz, hv⟩
  dsimp only at hi hlen hok hz hv ⊢
  (refine St.seq ?_; refine St.seq ?_; refine St.regionK (fun K hK => ?_); refine Ops.move rfl rfl rfl ?_; refine Ops.move rfl rfl rfl ?_; refine Ops.lenF rfl rfl (by with_reducible first | exact sNat.und | exact sInts.und) (List.length_map ..) rfl ?_; refine Ops.ibin ilss rfl rfl rfl rfl ?_; refine Ops.nil (hK _ _ ?_); clear hK K; refine Fin.then ?_)
  refine St.condP rfl (fun h => ?_) (fun h => ?_)
  · have bx := (limbs_ok a).get i
    have eix : (i : Int).toNat = i := Int.toNat_natCast i
    (refine St.skip ?_; refine Fin.then ?_; refine St.seq ?_; refine St.block ?_; refine St.seq ?_; refine St.regionK (fun K hK => ?_); refine Ops.assign rfl rfl rfl ?_; refine Ops.nil (hK _ _ ?_); clear hK K; refine Fin.then ?_; refine St.seq ?_; refine St.regionK (fun K hK => ?_); refine Ops.assign rfl rfl rfl ?_; refine Ops.nil (hK _ _ ?_); clear hK K; refine Fin.then ?_; refine St.block ?_)
    refine St.loop (α := Nat × List Int × Int) (fun s => (s.1 ≤ (limbs b).length ∨ s.2.2 = 0) ∧ s.1 ≤ (limbs b).length + 1 ∧ s.2.1.length = (limbs a).length + (limbs b).length ∧ OKL s.2.1 ∧ (∀ j, i + (limbs b).length + 1 ≤ j → s.2.1.getD j 0 = 0) ∧ (s.1 ≤ (limbs b).length → s.2.1.getD (i + (limbs b).length) 0 = 0) ∧ 0 ≤ s.2.2 ∧ s.2.2 < BB ∧
        val s.2.1 + s.2.2 * BB ^ (i + s.1) = val out + (limbs a).getD i 0 * pre (limbs b) s.1 * BB ^ i)
      (fun s => [(0, .ct (natC a)), (1, .ct (natC b)), (5, .own 0), (6, .ct (intC i)), (7, .ct (intC s.2.2)), (8, .ct (intC s.1))])
      (fun s => [(0, .row 3 1 (ints s.2.1))])
      (fun s => (limbs b).length + 2 - s.1) (0, out, 0) ⟨.inr rfl, Nat.zero_le _, hlen, hok, fun j hj => hz j (by omega), fun _ => hz _ (Nat.le_refl _), Int.le_refl _, by show (0 : Int) < BB; decide, by rw [pre_zero]; simp⟩ (by exact Entails.of rfl ⟨rfl, rfl, rfl, rfl, rfl, rfl, trivial⟩) ?_
    rintro ⟨q, zs, c⟩ ⟨hqc, hq, hzl, hzok, hzz, hzt, hc0, hc1, hzv⟩
    dsimp only at hqc hq hzl hzok hzz hzt hc0 hc1 hzv ⊢
    have by' := (limbs_ok b).get q
    have bz := hzok.get (i + q)
    have bm := mul_bd bx by'
    have hpast := getD_past (xs := limbs b) (i := q)
    simp only [BB] at bz hc1 bx
    have eq1 : (q : Int).toNat = q := Int.toNat_natCast q
    have eiq : ((i : Int) + q).toNat * 1 = i + q := by omega
    have step : q ≤ (limbs b).length →
        ((limbs b).length + 2 - (q + 1) < (limbs b).length + 2 - q) ∧ ((q + 1 ≤ (limbs b).length ∨ (zs.getD (i + q) 0 + (limbs a).getD i 0 * (limbs b).getD q 0 + c) / 1073741824 = 0) ∧ q + 1 ≤ (limbs b).length + 1 ∧ (zs.set (i + q) ((zs.getD (i + q) 0 + (limbs a).getD i 0 * (limbs b).getD q 0 + c) % 1073741824)).length = (limbs a).length + (limbs b).length ∧ OKL (zs.set (i + q) ((zs.getD (i + q) 0 + (limbs a).getD i 0 * (limbs b).getD q 0 + c) % 1073741824)) ∧ (∀ j, i + (limbs b).length + 1 ≤ j → (zs.set (i + q) ((zs.getD (i + q) 0 + (limbs a).getD i 0 * (limbs b).getD q 0 + c) % 1073741824)).getD j 0 = 0) ∧ (q + 1 ≤ (limbs b).length → (zs.set (i + q) ((zs.getD (i + q) 0 + (limbs a).getD i 0 * (limbs b).getD q 0 + c) % 1073741824)).getD (i + (limbs b).length) 0 = 0) ∧ 0 ≤ (zs.getD (i + q) 0 + (limbs a).getD i 0 * (limbs b).getD q 0 + c) / 1073741824 ∧ (zs.getD (i + q) 0 + (limbs a).getD i 0 * (limbs b).getD q 0 + c) / 1073741824 < BB ∧
        val (zs.set (i + q) ((zs.getD (i + q) 0 + (limbs a).getD i 0 * (limbs b).getD q 0 + c) % 1073741824)) + (zs.getD (i + q) 0 + (limbs a).getD i 0 * (limbs b).getD q 0 + c) / 1073741824 * BB ^ (i + (q + 1)) = val out + (limbs a).getD i 0 * pre (limbs b) (q + 1) * BB ^ i) := by
      intro hqb
      refine ⟨by omega, ?_, by omega, by simp [hzl], hzok.set _ (by simp only [BB]; omega), ?_, ?_, by omega, by simp only [BB]; omega, ?_⟩
      · rcases Nat.lt_or_ge q (limbs b).length with h5 | h5
        · exact .inl h5
        · have h6 : q = (limbs b).length := by omega
          right
          have := hzt hqb
          rw [← h6] at this
          rw [this, hpast h5, Int.mul_zero]; omega
      · intro j hj
        rw [getD_set (by omega), if_neg (by omega)]; exact hzz j hj
      · intro h5
        rw [getD_set (by omega), if_neg (by omega)]; exact hzt hqb
      · rw [val_set (by omega), pre_succ, show i + (q + 1) = (i + q) + 1 by omega, Int.pow_succ, Int.pow_add]
        rw [Int.pow_add] at hzv
        have e := Int.mul_ediv_add_emod (zs.getD (i + q) 0 + (limbs a).getD i 0 * (limbs b).getD q 0 + c) 1073741824
        clear hpast hzt hzz hqc bm by' bz hz
        simp only [BB] at *
        generalize (zs.getD (i + q) 0 + (limbs a).getD i 0 * (limbs b).getD q 0 + c) / 1073741824 = Q at *
        generalize (zs.getD (i + q) 0 + (limbs a).getD i 0 * (limbs b).getD q 0 + c) % 1073741824 = M at *
        generalize (1073741824 : Int) ^ i = I at *
        generalize (1073741824 : Int) ^ q = J at *
        generalize zs.getD (i + q) 0 = z at *
        generalize (limbs a).getD i 0 = x at *
        generalize (limbs b).getD q 0 = y at *
        generalize pre (limbs b) q = pb at *
        generalize val zs = vz at *
        generalize val out = vo at *
        grind
    have fin : ¬ ((q : Int) < (limbs b).length) → ¬ (0 < c) → (i + 1 ≤ (limbs a).length ∧ zs.length = (limbs a).length + (limbs b).length ∧ OKL zs ∧ (∀ j, i + 1 + (limbs b).length ≤ j → zs.getD j 0 = 0) ∧ val zs = pre (limbs a) (i + 1) * b) := by
      intro g1 g2
      refine ⟨by omega, hzl, hzok, fun j hj => hzz j (by omega), ?_⟩
      have hc : c = 0 := by omega
      rw [hc, Int.zero_mul, Int.add_zero, pre_all (xs := limbs b) (by omega), val_limbs, hv] at hzv
      rw [hzv, pre_succ]; grind
    (refine St.seq ?_; refine St.seq ?_; refine St.regionK (fun K hK => ?_); refine Ops.move rfl rfl rfl ?_; refine Ops.move rfl rfl rfl ?_; refine Ops.lenF rfl rfl (by with_reducible first | exact sNat.und | exact sInts.und) (List.length_map ..) rfl ?_; refine Ops.ibin ilss rfl rfl rfl rfl ?_; refine Ops.move rfl rfl rfl ?_)
    refine Ops.splitP 26 rfl (fun g1 => ?_) (fun g1 => ?_)
    · have st := step (by omega)
      clear step fin
      (refine Ops.skip rfl rfl rfl ?_; refine Ops.skip rfl rfl rfl ?_; refine Ops.pickT rfl rfl rfl rfl ?_; refine Ops.nil (hK _ _ ?_); clear hK K; refine Fin.then ?_; refine St.condT rfl ?_; refine St.skip ?_; refine Fin.then ?_; refine St.seq ?_; refine St.block ?_; refine St.seq ?_)
      refine St.drawK (by with_reducible exact mixed) 18 (.p 0 (.p 1 (.p 2 (.p 3 (.p 4 (.p 6 (.p 7 (.p 8 (.p 10 (.p 11 (.p 15 (.f 5 (.f 9 (.m 12 (.p 13 (.p 14 (.p 16 (.p 17 .done)))))))))))))))))) (by kernel_rfl) (fun K hK => ?_)
      (refine Ops.move rfl rfl rfl ?_; refine Ops.move rfl rfl rfl ?_; refine Ops.move rfl rfl rfl ?_; refine Ops.ibin (iadd (by omega) (by omega)) rfl rfl rfl rfl ?_)
      refine Ops.idxR ((limbs a).length + (limbs b).length) rfl rfl rfl (by simp [ints]; omega) rfl (by with_reducible exact sNat) (by omega) (by omega) rfl ?_
      rw [eiq]
      (refine Ops.move rfl rfl rfl ?_; refine Ops.move rfl rfl rfl ?_; refine Ops.idxF rfl rfl rfl (by with_reducible first | exact sNat | exact sInts) (by omega) (ints_at (by omega) (by omega)) rfl ?_; refine Ops.move rfl rfl rfl ?_; refine Ops.move rfl rfl rfl ?_; refine Ops.move rfl rfl rfl ?_)
      rw [eix]
      refine Ops.ld1A rfl rfl rfl rfl (ints_get (by omega)) (by with_reducible exact lInt) rfl ?_
      (refine Ops.ld1F rfl rfl rfl (by with_reducible first | exact lInt | exact lNat | exact lBool | exact lInts) rfl ?_)
      refine Ops.call gorlimb (rlimb_ok (limbs b) q) rfl rfl rfl rfl ?_
      (refine Ops.ibin (imul (by omega) (by omega)) rfl rfl rfl rfl ?_; refine Ops.ibin (iadd (by omega) (by omega)) rfl rfl rfl rfl ?_; refine Ops.ibin (iadd (by omega) (by omega)) rfl rfl rfl rfl ?_; refine Ops.assign rfl rfl rfl ?_; refine Ops.nil (hK _ _ ?_); clear hK K; refine Fin.then ?_; refine St.seq ?_; refine St.regionK (fun K hK => ?_); refine Ops.move rfl rfl rfl ?_; refine Ops.move rfl rfl rfl ?_; refine Ops.move rfl rfl rfl ?_; refine Ops.ibin (iadd (by omega) (by omega)) rfl rfl rfl rfl ?_; refine Ops.move rfl rfl rfl ?_; refine Ops.ibin (irem (by omega) (by omega)) rfl rfl rfl rfl ?_)
      refine Ops.idxR ((limbs a).length + (limbs b).length) rfl rfl rfl (by simp [ints]; omega) rfl (by with_reducible exact sNat) (by omega) (by omega) rfl ?_
      rw [eiq]
      refine Ops.st1A rfl rfl rfl rfl rfl (by with_reducible exact zInt) (by simp [Ent.cs, ints]; omega) ?_
      simp only [Ent.setc, ints_set]
      (refine Ops.nil (hK _ _ ?_); clear hK K; refine Fin.then ?_; refine St.regionK (fun K hK => ?_); refine Ops.move rfl rfl rfl ?_; refine Ops.ibin (iquo (by omega) (by omega) (by omega)) rfl rfl rfl rfl ?_; refine Ops.assign rfl rfl rfl ?_; refine Ops.nil (hK _ _ ?_); clear hK K; refine Fin.then ?_; refine St.regionK (fun K hK => ?_); refine Ops.move rfl rfl rfl ?_; refine Ops.ibin (iadd (by omega) (by omega)) rfl rfl rfl rfl ?_; refine Ops.assign rfl rfl rfl ?_; refine Ops.nil (hK _ _ ?_); clear hK K; refine Fin.thenN ?_)
      refine Fin.next (q + 1, zs.set (i + q) ((zs.getD (i + q) 0 + (limbs a).getD i 0 * (limbs b).getD q 0 + c) % 1073741824), (zs.getD (i + q) 0 + (limbs a).getD i 0 * (limbs b).getD q 0 + c) / 1073741824) st.1 st.2 (by exact Entails.of rfl ⟨rfl, rfl, rfl, rfl, rfl, by simp only [Int.natCast_add]; rfl, trivial⟩)
    · (refine Ops.move rfl rfl rfl ?_; refine Ops.ibin igtr rfl rfl rfl rfl ?_; refine Ops.pickF rfl rfl rfl rfl ?_; refine Ops.nil (hK _ _ ?_); clear hK K; refine Fin.then ?_)
      refine St.condP rfl (fun g2 => ?_) (fun g2 => ?_)
      · have st := step (by omega)
        clear step fin
        (refine St.skip ?_; refine Fin.then ?_; refine St.seq ?_; refine St.block ?_; refine St.seq ?_)
        refine St.drawK (by with_reducible exact mixed) 18 (.p 0 (.p 1 (.p 2 (.p 3 (.p 4 (.p 6 (.p 7 (.p 8 (.p 10 (.p 11 (.p 15 (.f 5 (.f 9 (.m 12 (.p 13 (.p 14 (.p 16 (.p 17 .done)))))))))))))))))) (by kernel_rfl) (fun K hK => ?_)
        (refine Ops.move rfl rfl rfl ?_; refine Ops.move rfl rfl rfl ?_; refine Ops.move rfl rfl rfl ?_; refine Ops.ibin (iadd (by omega) (by omega)) rfl rfl rfl rfl ?_)
        refine Ops.idxR ((limbs a).length + (limbs b).length) rfl rfl rfl (by simp [ints]; omega) rfl (by with_reducible exact sNat) (by omega) (by omega) rfl ?_
        rw [eiq]
        (refine Ops.move rfl rfl rfl ?_; refine Ops.move rfl rfl rfl ?_; refine Ops.idxF rfl rfl rfl (by with_reducible first | exact sNat | exact sInts) (by omega) (ints_at (by omega) (by omega)) rfl ?_; refine Ops.move rfl rfl rfl ?_; refine Ops.move rfl rfl rfl ?_; refine Ops.move rfl rfl rfl ?_)
        rw [eix]
        refine Ops.ld1A rfl rfl rfl rfl (ints_get (by omega)) (by with_reducible exact lInt) rfl ?_
        (refine Ops.ld1F rfl rfl rfl (by with_reducible first | exact lInt | exact lNat | exact lBool | exact lInts) rfl ?_)
        refine Ops.call gorlimb (rlimb_ok (limbs b) q) rfl rfl rfl rfl ?_
        (refine Ops.ibin (imul (by omega) (by omega)) rfl rfl rfl rfl ?_; refine Ops.ibin (iadd (by omega) (by omega)) rfl rfl rfl rfl ?_; refine Ops.ibin (iadd (by omega) (by omega)) rfl rfl rfl rfl ?_; refine Ops.assign rfl rfl rfl ?_; refine Ops.nil (hK _ _ ?_); clear hK K; refine Fin.then ?_; refine St.seq ?_; refine St.regionK (fun K hK => ?_); refine Ops.move rfl rfl rfl ?_; refine Ops.move rfl rfl rfl ?_; refine Ops.move rfl rfl rfl ?_; refine Ops.ibin (iadd (by omega) (by omega)) rfl rfl rfl rfl ?_; refine Ops.move rfl rfl rfl ?_; refine Ops.ibin (irem (by omega) (by omega)) rfl rfl rfl rfl ?_)
        refine Ops.idxR ((limbs a).length + (limbs b).length) rfl rfl rfl (by simp [ints]; omega) rfl (by with_reducible exact sNat) (by omega) (by omega) rfl ?_
        rw [eiq]
        refine Ops.st1A rfl rfl rfl rfl rfl (by with_reducible exact zInt) (by simp [Ent.cs, ints]; omega) ?_
        simp only [Ent.setc, ints_set]
        (refine Ops.nil (hK _ _ ?_); clear hK K; refine Fin.then ?_; refine St.regionK (fun K hK => ?_); refine Ops.move rfl rfl rfl ?_; refine Ops.ibin (iquo (by omega) (by omega) (by omega)) rfl rfl rfl rfl ?_; refine Ops.assign rfl rfl rfl ?_; refine Ops.nil (hK _ _ ?_); clear hK K; refine Fin.then ?_; refine St.regionK (fun K hK => ?_); refine Ops.move rfl rfl rfl ?_; refine Ops.ibin (iadd (by omega) (by omega)) rfl rfl rfl rfl ?_; refine Ops.assign rfl rfl rfl ?_; refine Ops.nil (hK _ _ ?_); clear hK K; refine Fin.thenN ?_)
        refine Fin.next (q + 1, zs.set (i + q) ((zs.getD (i + q) 0 + (limbs a).getD i 0 * (limbs b).getD q 0 + c) % 1073741824), (zs.getD (i + q) 0 + (limbs a).getD i 0 * (limbs b).getD q 0 + c) / 1073741824) st.1 st.2 (by exact Entails.of rfl ⟨rfl, rfl, rfl, rfl, rfl, by simp only [Int.natCast_add]; rfl, trivial⟩)
      · have fe := fin g1 g2
        clear step fin
        (refine St.exit ?_; refine Fin.then ?_; refine St.regionK (fun K hK => ?_); refine Ops.move rfl rfl rfl ?_; refine Ops.ibin (iadd (by omega) (by omega)) rfl rfl rfl rfl ?_; refine Ops.assign rfl rfl rfl ?_; refine Ops.nil (hK _ _ ?_); clear hK K; refine Fin.thenN ?_)
        refine Fin.next (i + 1, zs) (by dsimp only; omega) fe (by exact Entails.of rfl ⟨rfl, rfl, rfl, by simp only [Int.natCast_add]; rfl, trivial⟩)
  · have hi' : i = (limbs a).length := by omega
    have e4 : trimL out = limbs (a * b) := by
      rw [trim_limbs hok, hv, hi', pre_all (Nat.le_refl _), val_limbs]
      congr 1
    refine St.freeze 0 _ rfl (ints_frozen _ _) noBor_sub ?_
    (refine St.exit ?_; refine Fin.then ?_; refine St.seq ?_; refine St.regionK (fun K hK => ?_); refine Ops.move rfl rfl rfl ?_)
    refine Ops.call gorTrim (rTrim_ok out (by omega)) rfl rfl rfl rfl ?_
    rw [e4]
    (refine Ops.assign rfl rfl rfl ?_; refine Ops.nil (hK _ _ ?_); clear hK K; refine Fin.then ?_; refine St.ret ?_)
    refine Fin.ret [_] rfl (AllRes.tmp rfl AllRes.nil) rfl rfl
theorem gorTimes : InGo Try.prog 61 := InGo.of Try.func61 (by kernel_rfl) (by kernel_rfl)

end Go.Proofs.Ytgpkpmhdfcopgaa
