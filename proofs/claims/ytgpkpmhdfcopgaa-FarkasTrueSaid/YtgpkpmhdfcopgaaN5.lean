/-
  Walks: natural.Sub, natural.From.
-/
import Derived.Test.YtgpkpmhdfcopgaaN4
namespace Go.Proofs.Ytgpkpmhdfcopgaa
open Go.Own Go.Limbs
attribute [local irreducible] St Ops Go.Own.Fin Ok

set_option maxHeartbeats 2000000 in
theorem Sub_ok (a b : Nat) (hb : b ≤ a) (hx : (limbs a).length ≤ 256) : Ok Try.prog 75 [natC a, natC b] (.fr (tupT [natC (a - b), intC 0])) := by
  have hlb := limbs_len_mono hb
  refine Ok.enter Try.func75 rfl _ Try.ntmps75 rfl ?_
  intro S w
  (refine St.seq ?_; refine St.regionK (fun K hK => ?_); refine Ops.assign rfl rfl rfl ?_; refine Ops.assign rfl rfl rfl ?_; refine Ops.nil (hK _ _ ?_); refine Fin.then ?_; refine St.seq ?_; refine St.seq ?_; refine St.regionK (fun K hK => ?_); refine Ops.move rfl rfl rfl ?_; refine Ops.move rfl rfl rfl ?_)
  refine Ops.call goCompare (Compare_ok a b (by omega) (by omega)) rfl rfl rfl rfl ?_
  (refine Ops.ibin ilss rfl rfl rfl rfl ?_; refine Ops.nil (hK _ _ ?_); refine Fin.then ?_)
  refine St.condP rfl (fun h => ?_) (fun h => ?_)
  · rw [cmpI_eq, if_neg (by omega)] at h; split at h <;> omega
  clear h
  (refine St.skip ?_; refine Fin.then ?_; refine St.seq ?_; refine St.regionK (fun K hK => ?_); refine Ops.move rfl rfl rfl ?_; refine Ops.lenF rfl rfl (by with_reducible first | exact sNat.und | exact sInts.und) (List.length_map ..) rfl ?_)
  refine Ops.make 0 (limbs a).length rfl rfl rfl rfl sNat (by omega) (by omega) rfl rfl rfl ?_
  rw [ints_made]
  (refine Ops.assign rfl rfl rfl ?_; refine Ops.nil (hK _ _ ?_); refine Fin.then ?_; refine St.seq ?_; refine St.regionK (fun K hK => ?_); refine Ops.assign rfl rfl rfl ?_; refine Ops.nil (hK _ _ ?_); refine Fin.then ?_; refine St.seq ?_; refine St.seq ?_; refine St.regionK (fun K hK => ?_); refine Ops.move rfl rfl rfl ?_; refine Ops.lenF rfl rfl (by with_reducible first | exact sNat.und | exact sInts.und) (List.length_map ..) rfl ?_; refine Ops.move rfl rfl rfl ?_; refine Ops.nil (hK _ _ ?_); refine Fin.then ?_; refine St.block ?_)
  refine St.loop (α := Nat × List Int × Int) (fun s => s.1 ≤ (limbs a).length ∧ s.2.1.length = s.1 ∧ OKL s.2.1 ∧ -1 ≤ s.2.2 ∧ s.2.2 ≤ 0 ∧ val s.2.1 + s.2.2 * BB ^ s.1 = pre (limbs a) s.1 - pre (limbs b) s.1)
    (fun s => [(0, .ct (natC a)), (1, .ct (natC b)), (6, .own 0), (7, .ct (intC s.2.2)), (18, .ct (intC (limbs a).length)), (19, .ct (intC s.1))])
    (fun s => [(0, .row 3 1 (ints (s.2.1 ++ List.replicate ((limbs a).length - s.1) 0)))])
    (fun s => (limbs a).length - s.1) (0, [], 0) ⟨Nat.zero_le _, rfl, OKL.nil, by decide, by decide, by simp [val, pre_zero]⟩ (by exact Entails.of rfl ⟨rfl, rfl, rfl, rfl, rfl, rfl, trivial⟩) ?_
  rintro ⟨i, zs, c⟩ ⟨hi, hz, hok, hc0, hc1, hv⟩
  dsimp only at hi hz hok hc0 hc1 hv ⊢
  (refine St.seq ?_; refine St.regionK (fun K hK => ?_); refine Ops.ibin ilss rfl rfl rfl rfl ?_; refine Ops.nil (hK _ _ ?_); refine Fin.then ?_; refine St.seq ?_)
  refine St.condP rfl (fun h => ?_) (fun h => ?_)
  · have b1 := (limbs_ok a).get i
    have b2 := (limbs_ok b).get i
    simp only [BB] at b1 b2
    (refine St.skip ?_; refine Fin.then ?_; refine St.seq ?_; refine St.block ?_; refine St.seq ?_; refine St.regionK (fun K hK => ?_); refine Ops.move rfl rfl rfl ?_; refine Ops.assign rfl rfl rfl ?_; refine Ops.nil (hK _ _ ?_); refine Fin.then ?_; refine St.seq ?_)
    refine St.drawK (by with_reducible exact mixed) 11 (.p 0 (.p 1 (.p 2 (.p 4 (.p 5 (.p 8 (.f 3 (.m 6 (.p 7 (.p 9 (.p 10 .done))))))))))) (by kernel_rfl) (fun K hK => ?_)
    (refine Ops.move rfl rfl rfl ?_; refine Ops.move rfl rfl rfl ?_; refine Ops.idxF rfl rfl rfl (by with_reducible first | exact sNat | exact sInts) (by omega) (ints_at (by omega) (by omega)) rfl ?_; refine Ops.move rfl rfl rfl ?_; refine Ops.move rfl rfl rfl ?_; refine Ops.move rfl rfl rfl ?_; refine Ops.ld1F rfl rfl rfl (by with_reducible first | exact lInt | exact lNat | exact lBool | exact lInts) rfl ?_)
    rw [Int.toNat_natCast]
    skip
    refine Ops.call goat (at_ok (limbs b) i (by omega)) rfl rfl rfl rfl ?_
    rw [Int.toNat_natCast]
    (refine Ops.ibin (isub (by omega) (by omega)) rfl rfl rfl rfl ?_; refine Ops.ibin (iadd (by omega) (by omega)) rfl rfl rfl rfl ?_; refine Ops.assign rfl rfl rfl ?_; refine Ops.nil (hK _ _ ?_); refine Fin.then ?_; refine St.regionK (fun K hK => ?_); refine Ops.move rfl rfl rfl ?_; refine Ops.move rfl rfl rfl ?_; refine Ops.move rfl rfl rfl ?_; refine Ops.ibin iand30 rfl rfl rfl rfl ?_; refine Ops.move rfl rfl rfl ?_; refine Ops.ibin ishr30 rfl rfl rfl rfl ?_)
    refine Ops.idxR (limbs a).length rfl rfl rfl (by simp; omega) rfl sNat (by omega) (by omega) rfl ?_
    refine Ops.st1A rfl rfl rfl rfl rfl zInt (by simp [Ent.cs]; omega) ?_
    simp only [Ent.setc, ints_set]
    (refine Ops.assign rfl rfl rfl ?_; refine Ops.nil (hK _ _ ?_); refine Fin.then ?_; refine St.regionK (fun K hK => ?_); refine Ops.ibin (iadd (by omega) (by omega)) rfl rfl rfl rfl ?_; refine Ops.move rfl rfl rfl ?_; refine Ops.nil (hK _ _ ?_); refine Fin.thenN ?_)
    refine Fin.next (i + 1, zs ++ [((limbs a).getD i 0 - (limbs b).getD i 0 + c) % 1073741824], ((limbs a).getD i 0 - (limbs b).getD i 0 + c) / 1073741824) (by dsimp only; omega) ⟨by dsimp only; omega, by simp [hz], ?_, ?_, ?_, ?_⟩ ?_
    all_goals dsimp only
    · exact hok.append (OKL.cons (by simp only [BB]; omega) OKL.nil)
    · omega
    · omega
    · rw [val_append, hz, pre_succ, pre_succ]
      have e := Int.mul_ediv_add_emod ((limbs a).getD i 0 - (limbs b).getD i 0 + c) 1073741824
      simp only [val, BB] at *
      generalize ((limbs a).getD i 0 - (limbs b).getD i 0 + c) / 1073741824 = q at *
      generalize ((limbs a).getD i 0 - (limbs b).getD i 0 + c) % 1073741824 = m at *
      grind
    · refine Entails.of ?_ ⟨rfl, rfl, rfl, rfl, rfl, by simp only [Int.natCast_add]; rfl, trivial⟩
      have e1 : (limbs a).length - i = ((limbs a).length - (i + 1)) + 1 := by omega
      have e3 : (i : Int).toNat * 1 = zs.length := by omega
      rw [e1, e3, set_snoc]; rfl
  · have hi' : i = (limbs a).length := by omega
    subst hi'
    rw [Nat.sub_self, List.replicate_zero, List.append_nil]
    (refine St.exit ?_; refine Fin.then ?_; refine St.seq ?_; refine St.regionK (fun K hK => ?_); refine Ops.move rfl rfl rfl ?_)
    refine Ops.freeze 0 _ rfl (ints_frozen _ _) noBor_sub ?_
    refine Ops.call goresult (result_ok _ (by omega)) rfl rfl rfl rfl ?_
    have e4 : trimL zs = limbs (a - b) := by
      rw [trim_limbs hok]
      rw [pre_all (Nat.le_refl _), pre_all hlb, val_limbs, val_limbs] at hv
      have hp : 0 < BB ^ (limbs a).length := Int.pow_pos (by decide)
      have h1 := pre_bd hok (limbs a).length
      rw [pre_all (by omega)] at h1
      have hc : c = 0 := by
        rcases Int.lt_or_le c 0 with hc | hc
        · have : c = -1 := by omega
          subst this; rw [Int.neg_mul, Int.one_mul] at hv; omega
        · omega
      subst hc
      rw [Int.zero_mul] at hv
      congr 1; omega
    rw [e4]
    (refine Ops.extract rfl rfl rfl rfl ?_; refine Ops.extract rfl rfl rfl rfl ?_; refine Ops.assign rfl rfl rfl ?_; refine Ops.assign rfl rfl rfl ?_; refine Ops.nil (hK _ _ ?_); refine Fin.then ?_; refine St.ret ?_)
    refine Fin.ret [_, _] rfl (AllRes.tmp rfl (AllRes.tmp rfl AllRes.nil)) rfl rfl
theorem goSub : InGo Try.prog 75 := InGo.of Try.func75 (by kernel_rfl) (by kernel_rfl)

set_option maxHeartbeats 2000000 in
theorem From_ok (n : Nat) (hn : n < 9223372036854775808) : Ok Try.prog 72 [intC n] (.fr (tupT [natC n, intC 0])) := by
  refine Ok.enter Try.func72 rfl _ Try.ntmps72 rfl ?_
  intro S w
  (refine St.seq ?_; refine St.regionK (fun K hK => ?_); refine Ops.assign rfl rfl rfl ?_; refine Ops.assign rfl rfl rfl ?_; refine Ops.nil (hK _ _ ?_); refine Fin.then ?_; refine St.seq ?_; refine St.seq ?_; refine St.regionK (fun K hK => ?_); refine Ops.move rfl rfl rfl ?_; refine Ops.ibin ilss rfl rfl rfl rfl ?_; refine Ops.nil (hK _ _ ?_); refine Fin.then ?_; refine St.condF rfl ?_; refine St.skip ?_; refine Fin.then ?_; refine St.seq ?_; refine St.regionK (fun K hK => ?_); refine Ops.assign rfl rfl rfl ?_; refine Ops.nil (hK _ _ ?_); refine Fin.then ?_; refine St.seq ?_; refine St.block ?_)
  refine St.nilRow 4 0 3 1 rfl rfl rfl ?_
  refine St.loop (α := Nat × List Int) (fun s => s.1 ≤ n ∧ limbs n = s.2 ++ limbs s.1)
    (fun s => [(0, .ct (intC s.1)), (4, .own 0)]) (fun s => [(0, .row 3 1 (ints s.2))]) (fun s => s.1) (n, []) ⟨Nat.le_refl _, rfl⟩ (by exact Entails.of rfl ⟨rfl, rfl, trivial⟩) ?_
  rintro ⟨m, zs⟩ ⟨hm, hv⟩
  dsimp only at hm hv ⊢
  have hl : zs.length ≤ 64 := by
    have h1 := congrArg List.length hv
    have h2 := limbs_length_le (n := n) (k := 3) (by omega)
    simp at h1; omega
  (refine St.seq ?_; refine St.seq ?_; refine St.regionK (fun K hK => ?_); refine Ops.move rfl rfl rfl ?_; refine Ops.ibin igtr rfl rfl rfl rfl ?_; refine Ops.nil (hK _ _ ?_); refine Fin.then ?_)
  refine St.condP rfl (fun h => ?_) (fun h => ?_)
  · (refine St.skip ?_; refine Fin.then ?_; refine St.seq ?_; refine St.block ?_; refine St.regionK (fun K hK => ?_); refine Ops.move rfl rfl rfl ?_; refine Ops.move rfl rfl rfl ?_; refine Ops.ibin iand30 rfl rfl rfl rfl ?_)
    refine Ops.lit1 rfl rfl sNat rfl rfl rfl ?_
    refine Ops.append1 zs.length (ints (zs ++ [(m : Int) % 1073741824])) rfl rfl rfl rfl sNat (by simp) rfl (by omega) (by omega) (by simp [ints]) rfl ?_
    (refine Ops.assign rfl rfl rfl ?_; refine Ops.nil (hK _ _ ?_); refine Fin.then ?_; refine St.regionK (fun K hK => ?_); refine Ops.move rfl rfl rfl ?_; refine Ops.ibin ishr30 rfl rfl rfl rfl ?_; refine Ops.assign rfl rfl rfl ?_; refine Ops.nil (hK _ _ ?_); refine Fin.thenN ?_)
    refine Fin.next (m / 1073741824, zs ++ [(m : Int) % 1073741824]) (by dsimp only; omega) ⟨by dsimp only; omega, ?_⟩ ?_
    all_goals dsimp only
    · rw [hv, limbs_pos (n := m) (by omega)]; simp
    · exact Entails.of rfl ⟨by rw [Int.natCast_ediv]; rfl, rfl, trivial⟩
  · have : m = 0 := by omega
    subst this
    rw [limbs_zero, List.append_nil] at hv
    subst hv
    refine St.freeze 0 _ rfl (ints_frozen _ _) noBor_sub ?_
    (refine St.exit ?_; refine Fin.then ?_; refine St.seq ?_; refine St.regionK (fun K hK => ?_); refine Ops.move rfl rfl rfl ?_; refine Ops.assign rfl rfl rfl ?_; refine Ops.assign rfl rfl rfl ?_; refine Ops.nil (hK _ _ ?_); refine Fin.then ?_; refine St.ret ?_)
    refine Fin.ret [_, _] rfl (AllRes.tmp rfl (AllRes.tmp rfl AllRes.nil)) rfl rfl
theorem goFrom : InGo Try.prog 72 := InGo.of Try.func72 (by kernel_rfl) (by kernel_rfl)

end Go.Proofs.Ytgpkpmhdfcopgaa
