/- The proof that LinearBest holds for every input, without conditions: part 5 of 6. -/
import Derived.Test.YtdhmbgogmoaofaaGreatZ4
namespace Go.Proofs.YtdhmbgogmoaofaaGreat
open Go.Own Go.Limbs
attribute [local irreducible] St Ops Go.Own.Fin Ok
theorem val_sub_done {a b : Nat} {zs : List Int} {c : Int} (hok : OKL zs) (hzl : zs.length = (limbs a).length) (hb : b ≤ a) (hc0 : 0 ≤ c) (hc1 : c ≤ 1)
    (hv : val zs - c * BB ^ (limbs a).length = pre (limbs a) (limbs a).length - pre (limbs b) (limbs a).length) : trimL zs = limbs (a - b) := by
  have hlb := limbs_len_mono hb
  rw [trim_limbs hok]
  rw [pre_all (Nat.le_refl _), pre_all hlb, val_limbs, val_limbs] at hv
  have hp : 0 < BB ^ (limbs a).length := Int.pow_pos (by decide)
  have h1 := pre_bd hok (limbs a).length
  rw [pre_all (by omega)] at h1
  have hc : c = 0 := by
    rcases Int.lt_or_le 0 c with hc | hc
    · have : c = 1 := by omega
      subst this; rw [Int.one_mul] at hv; omega
    · omega
  subst hc
  rw [Int.zero_mul] at hv
  congr 1; omega
theorem less_step {v c P A B x y d c' K : Int} (h : v - c * P = A - B) (e : x - y - c = d - c' * K) : v + P * d - c' * (P * K) = (A + x * P) - (B + y * P) := by
  have h2 : P * (x - y - c) = P * (d - c' * K) := by rw [e]
  grind
set_option maxHeartbeats 2000000 in
theorem rLess_ok (a b : Nat) (hb : b ≤ a) (hx : (limbs a).length ≤ 1000000) : Ok Tryz.prog 144 [natC a, natC b] (natC (a - b)) := by
  refine Ok.enter Tryz.func144 rfl _ Tryz.ntmps144 rfl ?_
  intro S w
  (refine Qy (Qx fun K hK => ?_); refine Qv rfl rfl rfl ?_; refine Qj (hK _ _ (Qz (Qy ?_))); clear hK K; refine Qx (fun K hK => ?_); refine Qv rfl rfl rfl ?_; refine Qj (hK _ _ (Qz (Qy ?_))); clear hK K; refine Qx (fun K hK => ?_); refine Qv rfl rfl rfl ?_; refine Qj (hK _ _ (Qz (Qy (Qy ?_)))); clear hK K; refine Qx (fun K hK => ?_); refine Qv rfl rfl rfl ?_; refine Qj (hK _ _ (Qz (Q2 ?_))); clear hK K)
  refine X4 5 0 3 1 rfl rfl rfl ?_
  skip
  refine Ql (α := Nat × List Int × Int) (fun s => s.1 ≤ (limbs a).length ∧ s.2.1.length = s.1 ∧ OKL s.2.1 ∧ 0 ≤ s.2.2 ∧ s.2.2 ≤ 1 ∧ val s.2.1 - s.2.2 * BB ^ s.1 = pre (limbs a) s.1 - pre (limbs b) s.1)
    (fun s => [(0, .ct (natC a)), (1, .ct (natC b)), (5, .own 0), (6, .ct (intC s.2.2)), (7, .ct (intC s.1))])
    (fun s => [(0, .row 3 1 (ints s.2.1))])
    (fun s => (limbs a).length - s.1) (0, [], 0) ⟨Nat.zero_le _, rfl, OKL.nil, by decide, by decide, by simp [val, pre_zero]⟩ (by exact QZ rfl ⟨rfl, rfl, rfl, rfl, rfl, trivial⟩) ?_
  rintro ⟨i, zs, c⟩ ⟨hi, hz, hok, hc0, hc1, hv⟩
  dsimp only at hi hz hok hc0 hc1 hv ⊢
  (refine Qy (Qy (Qx fun K hK => ?_)); refine Qq rfl rfl rfl ?_; refine Qq rfl rfl rfl ?_; refine Q4 rfl rfl (by with_reducible first | exact sNat.und | exact sInts.und) (List.length_map ..) rfl ?_; refine Qw ilss rfl rfl rfl rfl ?_; refine Qj (hK _ _ (Qz ?_)); clear hK K)
  refine Q0 rfl (fun h => ?_) (fun h => ?_)
  · have b1 := (limbs_ok a).get i
    have b2 := (limbs_ok b).get i
    simp only [BB] at b1 b2
    have e2 : (i : Int).toNat = i := Int.toNat_natCast i
    (refine QU (Qz (Qy (Q2 (Qy ?_)))))
    refine Xq (by with_reducible exact mixed) 11 (.p 0 (.p 1 (.p 2 (.p 4 (.p 5 (.p 8 (.f 3 (.m 6 (.p 7 (.p 9 (.p 10 .done))))))))))) (by kernel_rfl) (fun K hK => ?_)
    (refine Qq rfl rfl rfl ?_; refine Qq rfl rfl rfl ?_; refine Qf rfl rfl rfl (by with_reducible first | exact sNat | exact sInts) (by omega) (ints_at (by omega) (by omega)) rfl ?_; refine Qq rfl rfl rfl ?_; refine Qq rfl rfl rfl ?_; refine Qq rfl rfl rfl ?_; refine Qm rfl rfl rfl (by with_reducible first | exact lInt | exact lNat | exact lBool | exact lInts) rfl ?_)
    rw [e2]
    skip
    refine QX gorlimb (rlimb_ok (limbs b) i) rfl rfl rfl rfl ?_
    (refine Qw (isub (by omega) (by omega)) rfl rfl rfl rfl ?_; refine Qw (isub (by omega) (by omega)) rfl rfl rfl rfl ?_; refine Qv rfl rfl rfl ?_; refine Qj (hK _ _ (Qz (Qy ?_))); clear hK K; refine Qx (fun K hK => ?_); refine Qv rfl rfl rfl ?_; refine Qj (hK _ _ (Qz (Qy (Qy ?_)))); clear hK K; refine Qx (fun K hK => ?_); refine Qq rfl rfl rfl ?_; refine Qw ilss rfl rfl rfl rfl ?_; refine Qj (hK _ _ (Qz ?_)); clear hK K)
    refine Q0 rfl (fun h2 => ?_) (fun h2 => ?_)
    · (refine Qy (Qx fun K hK => ?_); refine Qq rfl rfl rfl ?_; refine Qw (iadd (by omega) (by omega)) rfl rfl rfl rfl ?_; refine Qv rfl rfl rfl ?_; refine Qj (hK _ _ (Qz ?_)); clear hK K; refine Qx (fun K hK => ?_); refine Qv rfl rfl rfl ?_; refine Qj (hK _ _ (Qz ?_)); clear hK K; refine Qx (fun K hK => ?_); refine Qq rfl rfl rfl ?_; refine Qq rfl rfl rfl ?_)
      refine Xx rfl rfl (by with_reducible exact sNat) rfl rfl rfl ?_
      refine Qh zs.length (ints (zs ++ [(limbs a).getD i 0 - (limbs b).getD i 0 - c + 1073741824])) rfl rfl rfl rfl (by with_reducible exact sNat) (by simp [ints]) rfl (by omega) (by omega) (by simp [ints]) rfl ?_
      (refine Qv rfl rfl rfl ?_; refine Qj (hK _ _ (Qz ?_)); clear hK K; refine Qx (fun K hK => ?_); refine Qq rfl rfl rfl ?_; refine Qw (iadd (by omega) (by omega)) rfl rfl rfl rfl ?_; refine Qv rfl rfl rfl ?_; refine Qj (hK _ _ (Q5 ?_)); clear hK K)
      refine Q8 (i + 1, zs ++ [(limbs a).getD i 0 - (limbs b).getD i 0 - c + 1073741824], 1) (by dsimp only; omega) ⟨by dsimp only; omega, by simp [hz], ?_, by show (0 : Int) ≤ 1; decide, by show (1 : Int) ≤ 1; decide, ?_⟩ (by exact QZ rfl ⟨rfl, rfl, rfl, rfl, by simp only [Int.natCast_add]; rfl, trivial⟩)
      all_goals dsimp only
      · exact hok.append (OKL.cons (by simp only [BB]; omega) OKL.nil)
      · rw [val_append, hz, pre_succ, pre_succ, Int.pow_succ]
        simp only [val, Int.mul_zero, Int.add_zero]
        exact less_step hv (by simp only [BB]; omega)
    · (refine QU (Qz (Qx fun K hK => ?_)); refine Qq rfl rfl rfl ?_; refine Qq rfl rfl rfl ?_)
      refine Xx rfl rfl (by with_reducible exact sNat) rfl rfl rfl ?_
      refine Qh zs.length (ints (zs ++ [(limbs a).getD i 0 - (limbs b).getD i 0 - c])) rfl rfl rfl rfl (by with_reducible exact sNat) (by simp [ints]) rfl (by omega) (by omega) (by simp [ints]) rfl ?_
      (refine Qv rfl rfl rfl ?_; refine Qj (hK _ _ (Qz ?_)); clear hK K; refine Qx (fun K hK => ?_); refine Qq rfl rfl rfl ?_; refine Qw (iadd (by omega) (by omega)) rfl rfl rfl rfl ?_; refine Qv rfl rfl rfl ?_; refine Qj (hK _ _ (Q5 ?_)); clear hK K)
      refine Q8 (i + 1, zs ++ [(limbs a).getD i 0 - (limbs b).getD i 0 - c], 0) (by dsimp only; omega) ⟨by dsimp only; omega, by simp [hz], ?_, by show (0 : Int) ≤ 0; decide, by show (0 : Int) ≤ 1; decide, ?_⟩ (by exact QZ rfl ⟨rfl, rfl, rfl, rfl, by simp only [Int.natCast_add]; rfl, trivial⟩)
      all_goals dsimp only
      · exact hok.append (OKL.cons (by simp only [BB]; omega) OKL.nil)
      · rw [val_append, hz, pre_succ, pre_succ, Int.pow_succ]
        simp only [val, Int.mul_zero, Int.add_zero]
        exact less_step hv (by simp only [BB]; omega)
  · have hi' : i = (limbs a).length := by omega
    subst hi'
    have e4 := val_sub_done hok hz hb hc0 hc1 hv
    refine XW 0 _ rfl (ints_frozen _ _) noBor_sub ?_
    (refine Qe (Qz (Qy (Qx fun K hK => ?_))); refine Qq rfl rfl rfl ?_)
    refine QX gorTrim (rTrim_ok zs (by omega)) rfl rfl rfl rfl ?_
    rw [e4]
    (refine Qv rfl rfl rfl ?_; refine Qj (hK _ _ (Qz (Q3 ?_))); clear hK K)
    refine QK [_] rfl (QQ rfl Qu) rfl rfl
theorem gorLess : InGo Tryz.prog 144 := InGo.of Tryz.func144 (by kernel_rfl) (by kernel_rfl)
set_option maxHeartbeats 2000000 in
theorem rhalf_ok (a : Nat) (hl : (limbs a).length ≤ 1000000) : Ok Tryz.prog 161 [natC a] (natC (a / 2)) := by
  refine Ok.enter Tryz.func161 rfl _ Tryz.ntmps161 rfl ?_
  intro S w
  (refine Qy (Qx fun K hK => ?_); refine Qv rfl rfl rfl ?_; refine Qj (hK _ _ (Qz (Qy ?_))); clear hK K; refine Qx (fun K hK => ?_); refine Qq rfl rfl rfl ?_; refine Q4 rfl rfl (by with_reducible first | exact sNat.und | exact sInts.und) (List.length_map ..) rfl ?_)
  refine X5 0 (limbs a).length rfl rfl rfl rfl (by with_reducible exact sNat) (by omega) (by omega) rfl rfl rfl ?_
  rw [ints_made]
  (refine Qv rfl rfl rfl ?_; refine Qj (hK _ _ (Qz (Qy ?_))); clear hK K; refine Qx (fun K hK => ?_); refine Qv rfl rfl rfl ?_; refine Qj (hK _ _ (Qz (Qy (Qy ?_)))); clear hK K; refine Qx (fun K hK => ?_); refine Qq rfl rfl rfl ?_; refine Q4 rfl rfl (by with_reducible first | exact sNat.und | exact sInts.und) (List.length_map ..) rfl ?_; refine Qw (isub (by omega) (by omega)) rfl rfl rfl rfl ?_; refine Qv rfl rfl rfl ?_; refine Qj (hK _ _ (Qz (Q2 ?_))); clear hK K)
  refine Ql (α := Nat × List Int × Int) (fun s => s.1 ≤ (limbs a).length ∧ s.2.1.length = (limbs a).length ∧ OKL s.2.1 ∧ (∀ j, j < s.1 → s.2.1.getD j 0 = 0) ∧ 0 ≤ s.2.2 ∧ s.2.2 < 2 ∧ val s.2.1 * 2 + s.2.2 * BB ^ s.1 = val (limbs a) - pre (limbs a) s.1)
    (fun s => [(0, .ct (natC a)), (3, .own 0), (4, .ct (intC s.2.2)), (5, .ct (intC ((s.1 : Int) - 1)))])
    (fun s => [(0, .row 3 1 (ints s.2.1))]) (fun s => s.1) ((limbs a).length, List.replicate (limbs a).length 0, 0) ⟨Nat.le_refl _, by simp, OKL.zeros _, ?_, Int.le_refl _, by show (0 : Int) < 2; decide, ?_⟩ (by exact QZ rfl ⟨rfl, rfl, rfl, rfl, trivial⟩) ?_
  · intro j _; simp [List.getD_eq_getElem?_getD, List.getElem?_replicate]; split <;> rfl
  · dsimp only; rw [val_zeros, pre_all (Nat.le_refl _)]; simp
  rintro ⟨q, zs, rest⟩ ⟨hq, hzl, hok, hz, hr0, hr1, hv⟩
  dsimp only at hq hzl hok hz hr0 hr1 hv ⊢
  (refine Qy (Qy (Qx fun K hK => ?_)); refine Qq rfl rfl rfl ?_; refine Qw igeq rfl rfl rfl rfl ?_; refine Qj (hK _ _ (Qz ?_)); clear hK K)
  refine Q0 rfl (fun h => ?_) (fun h => ?_)
  · obtain ⟨i, rfl⟩ : ∃ i, q = i + 1 := ⟨q - 1, by omega⟩
    have e1 : (((i + 1 : Nat) : Int) - 1) = (i : Int) := by omega
    have e2 : (i : Int).toNat = i := Int.toNat_natCast i
    have e3 : (i : Int).toNat * 1 = i := by omega
    have bx := (limbs_ok a).get i
    simp only [BB] at bx
    rw [e1]
    (refine QU (Qz (Qy (Q2 (Qy (Qx fun K hK => ?_))))); refine Qq rfl rfl rfl ?_; refine Qq rfl rfl rfl ?_; refine Qf rfl rfl rfl (by with_reducible first | exact sNat | exact sInts) (by omega) (ints_at (by omega) (by omega)) rfl ?_; refine Qm rfl rfl rfl (by with_reducible first | exact lInt | exact lNat | exact lBool | exact lInts) rfl ?_; refine Qq rfl rfl rfl ?_; refine Qw (imul (by omega) (by omega)) rfl rfl rfl rfl ?_)
    rw [e2]
    (refine Qw (iadd (by omega) (by omega)) rfl rfl rfl rfl ?_; refine Qv rfl rfl rfl ?_; refine Qj (hK _ _ (Qz (Qy ?_))); clear hK K; refine Qx (fun K hK => ?_); refine Qq rfl rfl rfl ?_; refine Qq rfl rfl rfl ?_; refine Qq rfl rfl rfl ?_; refine Qw (iquo (by omega) (by omega) (by omega)) rfl rfl rfl rfl ?_)
    rw [show (limbs a).getD i 0 + rest * 1073741824 = rest * 1073741824 + (limbs a).getD i 0 from Int.add_comm _ _]
    skip
    refine Xv (limbs a).length rfl rfl rfl (by simp [ints]; omega) rfl (by with_reducible exact sNat) (by omega) (by omega) rfl ?_
    rw [e3]
    refine Qn rfl rfl rfl rfl rfl (by with_reducible exact zInt) (by simp [Ent.cs, ints]; omega) ?_
    simp only [Ent.setc, ints_set]
    (refine Qj (hK _ _ (Qz ?_)); clear hK K; refine Qx (fun K hK => ?_); refine Qq rfl rfl rfl ?_; refine Qw (irem (by omega) (by omega)) rfl rfl rfl rfl ?_; refine Qv rfl rfl rfl ?_; refine Qj (hK _ _ (Qz ?_)); clear hK K; refine Qx (fun K hK => ?_); refine Qq rfl rfl rfl ?_; refine Qw (isub (by omega) (by omega)) rfl rfl rfl rfl ?_; refine Qv rfl rfl rfl ?_; refine Qj (hK _ _ (Q5 ?_)); clear hK K)
    refine Q8 (i, zs.set i ((rest * 1073741824 + (limbs a).getD i 0) / 2), (rest * 1073741824 + (limbs a).getD i 0) % 2) (by dsimp only; omega) ⟨by dsimp only; omega, by simp [hzl], ?_, ?_, by dsimp only; omega, by dsimp only; omega, ?_⟩ (by exact QZ rfl ⟨rfl, rfl, rfl, rfl, trivial⟩)
    all_goals dsimp only
    · exact hok.set _ (by simp only [BB]; omega)
    · intro j hj; rw [getD_set (by omega), if_neg (by omega)]; exact hz j (by omega)
    · rw [val_set (by omega), hz i (by omega), Int.sub_zero]
      exact top_step hv
  · have hq0 : q = 0 := by omega
    subst hq0
    have e4 : val zs * 2 + rest = a := by rw [pre_zero, val_limbs] at hv; simpa using hv
    have e5 : (val zs).toNat = a / 2 := by omega
    refine XW 0 _ rfl (ints_frozen _ _) noBor_sub ?_
    (refine Qe (Qz (Qy (Qx fun K hK => ?_))); refine Qq rfl rfl rfl ?_)
    refine QX gorTrim (rTrim_ok zs (by omega)) rfl rfl rfl rfl ?_
    rw [trim_limbs hok, e5]
    (refine Qv rfl rfl rfl ?_; refine Qj (hK _ _ (Qz (Q3 ?_))); clear hK K)
    refine QK [_] rfl (QQ rfl Qu) rfl rfl
theorem gorhalf : InGo Tryz.prog 161 := InGo.of Tryz.func161 (by kernel_rfl) (by kernel_rfl)
set_option maxHeartbeats 4000000 in
theorem rTimes_ok (a b : Nat) (hx : (limbs a).length + (limbs b).length ≤ 1000000) : Ok Tryz.prog 94 [natC a, natC b] (natC (a * b)) := by
  refine Ok.enter Tryz.func94 rfl _ Tryz.ntmps94 rfl ?_
  intro S w
  (refine Qy (Qx fun K hK => ?_); refine Qv rfl rfl rfl ?_; refine Qj (hK _ _ (Qz (Qy ?_))); clear hK K; refine Qx (fun K hK => ?_); refine Qq rfl rfl rfl ?_; refine Q4 rfl rfl (by with_reducible first | exact sNat.und | exact sInts.und) (List.length_map ..) rfl ?_; refine Qq rfl rfl rfl ?_; refine Q4 rfl rfl (by with_reducible first | exact sNat.und | exact sInts.und) (List.length_map ..) rfl ?_; refine Qw (iadd (by omega) (by omega)) rfl rfl rfl rfl ?_)
  refine X5 0 ((limbs a).length + (limbs b).length) rfl rfl rfl (by omega) (by with_reducible exact sNat) (by omega) (by omega) rfl rfl rfl ?_
  rw [ints_made]
  (refine Qv rfl rfl rfl ?_; refine Qj (hK _ _ (Qz (Qy (Qy ?_)))); clear hK K; refine Qx (fun K hK => ?_); refine Qv rfl rfl rfl ?_; refine Qj (hK _ _ (Qz (Q2 ?_))); clear hK K)
  refine Ql (α := Nat × List Int) (fun s => s.1 ≤ (limbs a).length ∧ s.2.length = (limbs a).length + (limbs b).length ∧ OKL s.2 ∧ (∀ j, s.1 + (limbs b).length ≤ j → s.2.getD j 0 = 0) ∧ val s.2 = pre (limbs a) s.1 * b)
    (fun s => [(0, .ct (natC a)), (1, .ct (natC b)), (5, .own 0), (6, .ct (intC s.1))])
    (fun s => [(0, .row 3 1 (ints s.2))])
    (fun s => (limbs a).length - s.1) (0, List.replicate ((limbs a).length + (limbs b).length) 0) ⟨Nat.zero_le _, by simp, OKL.zeros _, ?_, ?_⟩ (by exact QZ rfl ⟨rfl, rfl, rfl, rfl, trivial⟩) ?_
  · intro j _; simp [List.getD_eq_getElem?_getD, List.getElem?_replicate]; split <;> rfl
  · rw [pre_zero, val_zeros]; simp
  rintro ⟨i, out⟩ ⟨hi, hlen, hok, hz, hv⟩
  dsimp only at hi hlen hok hz hv ⊢
  (refine Qy (Qy (Qx fun K hK => ?_)); refine Qq rfl rfl rfl ?_; refine Qq rfl rfl rfl ?_; refine Q4 rfl rfl (by with_reducible first | exact sNat.und | exact sInts.und) (List.length_map ..) rfl ?_; refine Qw ilss rfl rfl rfl rfl ?_; refine Qj (hK _ _ (Qz ?_)); clear hK K)
  refine Q0 rfl (fun h => ?_) (fun h => ?_)
  · have bx := (limbs_ok a).get i
    have eix : (i : Int).toNat = i := Int.toNat_natCast i
    (refine QU (Qz (Qy (Q2 (Qy (Qx fun K hK => ?_))))); refine Qv rfl rfl rfl ?_; refine Qj (hK _ _ (Qz (Qy ?_))); clear hK K; refine Qx (fun K hK => ?_); refine Qv rfl rfl rfl ?_; refine Qj (hK _ _ (Qz (Q2 ?_))); clear hK K)
    refine Ql (α := Nat × List Int × Int) (fun s => (s.1 ≤ (limbs b).length ∨ s.2.2 = 0) ∧ s.1 ≤ (limbs b).length + 1 ∧ s.2.1.length = (limbs a).length + (limbs b).length ∧ OKL s.2.1 ∧ (∀ j, i + (limbs b).length + 1 ≤ j → s.2.1.getD j 0 = 0) ∧ (s.1 ≤ (limbs b).length → s.2.1.getD (i + (limbs b).length) 0 = 0) ∧ 0 ≤ s.2.2 ∧ s.2.2 < BB ∧
        val s.2.1 + s.2.2 * BB ^ (i + s.1) = val out + (limbs a).getD i 0 * pre (limbs b) s.1 * BB ^ i)
      (fun s => [(0, .ct (natC a)), (1, .ct (natC b)), (5, .own 0), (6, .ct (intC i)), (7, .ct (intC s.2.2)), (8, .ct (intC s.1))])
      (fun s => [(0, .row 3 1 (ints s.2.1))])
      (fun s => (limbs b).length + 2 - s.1) (0, out, 0) ⟨.inr rfl, Nat.zero_le _, hlen, hok, fun j hj => hz j (by omega), fun _ => hz _ (Nat.le_refl _), Int.le_refl _, by show (0 : Int) < BB; decide, by rw [pre_zero]; simp⟩ (by exact QZ rfl ⟨rfl, rfl, rfl, rfl, rfl, rfl, trivial⟩) ?_
    rintro ⟨q, zs, c⟩ ⟨hqc, hq, hzl, hzok, hzz, hzt, hc0, hc1, hzv⟩
    dsimp only at hqc hq hzl hzok hzz hzt hc0 hc1 hzv ⊢
    have by' := (limbs_ok b).get q
    have bz := hzok.get (i + q)
    have bm := mul_bd bx by'
    have hpast := getD_past (xs := limbs b) (i := q)
    simp only [BB] at bz hc1 bx
    have eq1 : (q : Int).toNat = q := Int.toNat_natCast q
    have eiq : ((i : Int) + q).toNat * 1 = i + q := by omega
    have step : q ≤ (limbs b).length →
        ((limbs b).length + 2 - (q + 1) < (limbs b).length + 2 - q) ∧ ((q + 1 ≤ (limbs b).length ∨ (zs.getD (i + q) 0 + (limbs a).getD i 0 * (limbs b).getD q 0 + c) / 1073741824 = 0) ∧ q + 1 ≤ (limbs b).length + 1 ∧ (zs.set (i + q) ((zs.getD (i + q) 0 + (limbs a).getD i 0 * (limbs b).getD q 0 + c) % 1073741824)).length = (limbs a).length + (limbs b).length ∧ OKL (zs.set (i + q) ((zs.getD (i + q) 0 + (limbs a).getD i 0 * (limbs b).getD q 0 + c) % 1073741824)) ∧ (∀ j, i + (limbs b).length + 1 ≤ j → (zs.set (i + q) ((zs.getD (i + q) 0 + (limbs a).getD i 0 * (limbs b).getD q 0 + c) % 1073741824)).getD j 0 = 0) ∧ (q + 1 ≤ (limbs b).length → (zs.set (i + q) ((zs.getD (i + q) 0 + (limbs a).getD i 0 * (limbs b).getD q 0 + c) % 1073741824)).getD (i + (limbs b).length) 0 = 0) ∧ 0 ≤ (zs.getD (i + q) 0 + (limbs a).getD i 0 * (limbs b).getD q 0 + c) / 1073741824 ∧ (zs.getD (i + q) 0 + (limbs a).getD i 0 * (limbs b).getD q 0 + c) / 1073741824 < BB ∧
        val (zs.set (i + q) ((zs.getD (i + q) 0 + (limbs a).getD i 0 * (limbs b).getD q 0 + c) % 1073741824)) + (zs.getD (i + q) 0 + (limbs a).getD i 0 * (limbs b).getD q 0 + c) / 1073741824 * BB ^ (i + (q + 1)) = val out + (limbs a).getD i 0 * pre (limbs b) (q + 1) * BB ^ i) := by
      intro hqb
      refine ⟨by omega, ?_, by omega, by simp [hzl], hzok.set _ (by simp only [BB]; omega), ?_, ?_, by omega, by simp only [BB]; omega, ?_⟩
      · rcases Nat.lt_or_ge q (limbs b).length with h5 | h5
        · exact .inl h5
        · have h6 : q = (limbs b).length := by omega
          right
          have := hzt hqb
          rw [← h6] at this
          rw [this, hpast h5, Int.mul_zero]; omega
      · intro j hj
        rw [getD_set (by omega), if_neg (by omega)]; exact hzz j hj
      · intro h5
        rw [getD_set (by omega), if_neg (by omega)]; exact hzt hqb
      · rw [val_set (by omega), pre_succ, show i + (q + 1) = (i + q) + 1 by omega, Int.pow_succ, Int.pow_add]
        rw [Int.pow_add] at hzv
        have e := Int.mul_ediv_add_emod (zs.getD (i + q) 0 + (limbs a).getD i 0 * (limbs b).getD q 0 + c) 1073741824
        clear hpast hzt hzz hqc bm by' bz hz
        simp only [BB] at *
        generalize (zs.getD (i + q) 0 + (limbs a).getD i 0 * (limbs b).getD q 0 + c) / 1073741824 = Q at *
        generalize (zs.getD (i + q) 0 + (limbs a).getD i 0 * (limbs b).getD q 0 + c) % 1073741824 = M at *
        generalize (1073741824 : Int) ^ i = I at *
        generalize (1073741824 : Int) ^ q = J at *
        generalize zs.getD (i + q) 0 = z at *
        generalize (limbs a).getD i 0 = x at *
        generalize (limbs b).getD q 0 = y at *
        generalize pre (limbs b) q = pb at *
        generalize val zs = vz at *
        generalize val out = vo at *
        grind
    have fin : ¬ ((q : Int) < (limbs b).length) → ¬ (0 < c) → (i + 1 ≤ (limbs a).length ∧ zs.length = (limbs a).length + (limbs b).length ∧ OKL zs ∧ (∀ j, i + 1 + (limbs b).length ≤ j → zs.getD j 0 = 0) ∧ val zs = pre (limbs a) (i + 1) * b) := by
      intro g1 g2
      refine ⟨by omega, hzl, hzok, fun j hj => hzz j (by omega), ?_⟩
      have hc : c = 0 := by omega
      rw [hc, Int.zero_mul, Int.add_zero, pre_all (xs := limbs b) (by omega), val_limbs, hv] at hzv
      rw [hzv, pre_succ]; grind
    (refine Qy (Qy (Qx fun K hK => ?_)); refine Qq rfl rfl rfl ?_; refine Qq rfl rfl rfl ?_; refine Q4 rfl rfl (by with_reducible first | exact sNat.und | exact sInts.und) (List.length_map ..) rfl ?_; refine Qw ilss rfl rfl rfl rfl ?_; refine Qq rfl rfl rfl ?_)
    refine Qg 26 rfl (fun g1 => ?_) (fun g1 => ?_)
    · have st := step (by omega)
      clear step fin
      (refine Qk rfl rfl rfl ?_; refine Qk rfl rfl rfl ?_; refine Q7 rfl rfl rfl rfl ?_; refine Qj (hK _ _ (Qz (Xk rfl (QU (Qz (Qy (Q2 (Qy ?_)))))))); clear hK K)
      refine Xq (by with_reducible exact mixed) 18 (.p 0 (.p 1 (.p 2 (.p 3 (.p 4 (.p 6 (.p 7 (.p 8 (.p 10 (.p 11 (.p 15 (.f 5 (.f 9 (.m 12 (.p 13 (.p 14 (.p 16 (.p 17 .done)))))))))))))))))) (by kernel_rfl) (fun K hK => ?_)
      (refine Qq rfl rfl rfl ?_; refine Qq rfl rfl rfl ?_; refine Qq rfl rfl rfl ?_; refine Qw (iadd (by omega) (by omega)) rfl rfl rfl rfl ?_)
      refine Xv ((limbs a).length + (limbs b).length) rfl rfl rfl (by simp [ints]; omega) rfl (by with_reducible exact sNat) (by omega) (by omega) rfl ?_
      rw [eiq]
      (refine Qq rfl rfl rfl ?_; refine Qq rfl rfl rfl ?_; refine Qf rfl rfl rfl (by with_reducible first | exact sNat | exact sInts) (by omega) (ints_at (by omega) (by omega)) rfl ?_; refine Qq rfl rfl rfl ?_; refine Qq rfl rfl rfl ?_; refine Qq rfl rfl rfl ?_)
      rw [eix]
      refine QJ rfl rfl rfl rfl (ints_get (by omega)) (by with_reducible exact lInt) rfl ?_
      (refine Qm rfl rfl rfl (by with_reducible first | exact lInt | exact lNat | exact lBool | exact lInts) rfl ?_)
      refine QX gorlimb (rlimb_ok (limbs b) q) rfl rfl rfl rfl ?_
      (refine Qw (imul (by omega) (by omega)) rfl rfl rfl rfl ?_; refine Qw (iadd (by omega) (by omega)) rfl rfl rfl rfl ?_; refine Qw (iadd (by omega) (by omega)) rfl rfl rfl rfl ?_; refine Qv rfl rfl rfl ?_; refine Qj (hK _ _ (Qz (Qy ?_))); clear hK K; refine Qx (fun K hK => ?_); refine Qq rfl rfl rfl ?_; refine Qq rfl rfl rfl ?_; refine Qq rfl rfl rfl ?_; refine Qw (iadd (by omega) (by omega)) rfl rfl rfl rfl ?_; refine Qq rfl rfl rfl ?_; refine Qw (irem (by omega) (by omega)) rfl rfl rfl rfl ?_)
      refine Xv ((limbs a).length + (limbs b).length) rfl rfl rfl (by simp [ints]; omega) rfl (by with_reducible exact sNat) (by omega) (by omega) rfl ?_
      rw [eiq]
      refine Qn rfl rfl rfl rfl rfl (by with_reducible exact zInt) (by simp [Ent.cs, ints]; omega) ?_
      simp only [Ent.setc, ints_set]
      (refine Qj (hK _ _ (Qz ?_)); clear hK K; refine Qx (fun K hK => ?_); refine Qq rfl rfl rfl ?_; refine Qw (iquo (by omega) (by omega) (by omega)) rfl rfl rfl rfl ?_; refine Qv rfl rfl rfl ?_; refine Qj (hK _ _ (Qz ?_)); clear hK K; refine Qx (fun K hK => ?_); refine Qq rfl rfl rfl ?_; refine Qw (iadd (by omega) (by omega)) rfl rfl rfl rfl ?_; refine Qv rfl rfl rfl ?_; refine Qj (hK _ _ (Q5 ?_)); clear hK K)
      refine Q8 (q + 1, zs.set (i + q) ((zs.getD (i + q) 0 + (limbs a).getD i 0 * (limbs b).getD q 0 + c) % 1073741824), (zs.getD (i + q) 0 + (limbs a).getD i 0 * (limbs b).getD q 0 + c) / 1073741824) st.1 st.2 (by exact QZ rfl ⟨rfl, rfl, rfl, rfl, rfl, by simp only [Int.natCast_add]; rfl, trivial⟩)
    · (refine Qq rfl rfl rfl ?_; refine Qw igtr rfl rfl rfl rfl ?_; refine Q6 rfl rfl rfl rfl ?_; refine Qj (hK _ _ (Qz ?_)); clear hK K)
      refine Q0 rfl (fun g2 => ?_) (fun g2 => ?_)
      · have st := step (by omega)
        clear step fin
        (refine QU (Qz (Qy (Q2 (Qy ?_)))))
        refine Xq (by with_reducible exact mixed) 18 (.p 0 (.p 1 (.p 2 (.p 3 (.p 4 (.p 6 (.p 7 (.p 8 (.p 10 (.p 11 (.p 15 (.f 5 (.f 9 (.m 12 (.p 13 (.p 14 (.p 16 (.p 17 .done)))))))))))))))))) (by kernel_rfl) (fun K hK => ?_)
        (refine Qq rfl rfl rfl ?_; refine Qq rfl rfl rfl ?_; refine Qq rfl rfl rfl ?_; refine Qw (iadd (by omega) (by omega)) rfl rfl rfl rfl ?_)
        refine Xv ((limbs a).length + (limbs b).length) rfl rfl rfl (by simp [ints]; omega) rfl (by with_reducible exact sNat) (by omega) (by omega) rfl ?_
        rw [eiq]
        (refine Qq rfl rfl rfl ?_; refine Qq rfl rfl rfl ?_; refine Qf rfl rfl rfl (by with_reducible first | exact sNat | exact sInts) (by omega) (ints_at (by omega) (by omega)) rfl ?_; refine Qq rfl rfl rfl ?_; refine Qq rfl rfl rfl ?_; refine Qq rfl rfl rfl ?_)
        rw [eix]
        refine QJ rfl rfl rfl rfl (ints_get (by omega)) (by with_reducible exact lInt) rfl ?_
        (refine Qm rfl rfl rfl (by with_reducible first | exact lInt | exact lNat | exact lBool | exact lInts) rfl ?_)
        refine QX gorlimb (rlimb_ok (limbs b) q) rfl rfl rfl rfl ?_
        (refine Qw (imul (by omega) (by omega)) rfl rfl rfl rfl ?_; refine Qw (iadd (by omega) (by omega)) rfl rfl rfl rfl ?_; refine Qw (iadd (by omega) (by omega)) rfl rfl rfl rfl ?_; refine Qv rfl rfl rfl ?_; refine Qj (hK _ _ (Qz (Qy ?_))); clear hK K; refine Qx (fun K hK => ?_); refine Qq rfl rfl rfl ?_; refine Qq rfl rfl rfl ?_; refine Qq rfl rfl rfl ?_; refine Qw (iadd (by omega) (by omega)) rfl rfl rfl rfl ?_; refine Qq rfl rfl rfl ?_; refine Qw (irem (by omega) (by omega)) rfl rfl rfl rfl ?_)
        refine Xv ((limbs a).length + (limbs b).length) rfl rfl rfl (by simp [ints]; omega) rfl (by with_reducible exact sNat) (by omega) (by omega) rfl ?_
        rw [eiq]
        refine Qn rfl rfl rfl rfl rfl (by with_reducible exact zInt) (by simp [Ent.cs, ints]; omega) ?_
        simp only [Ent.setc, ints_set]
        (refine Qj (hK _ _ (Qz ?_)); clear hK K; refine Qx (fun K hK => ?_); refine Qq rfl rfl rfl ?_; refine Qw (iquo (by omega) (by omega) (by omega)) rfl rfl rfl rfl ?_; refine Qv rfl rfl rfl ?_; refine Qj (hK _ _ (Qz ?_)); clear hK K; refine Qx (fun K hK => ?_); refine Qq rfl rfl rfl ?_; refine Qw (iadd (by omega) (by omega)) rfl rfl rfl rfl ?_; refine Qv rfl rfl rfl ?_; refine Qj (hK _ _ (Q5 ?_)); clear hK K)
        refine Q8 (q + 1, zs.set (i + q) ((zs.getD (i + q) 0 + (limbs a).getD i 0 * (limbs b).getD q 0 + c) % 1073741824), (zs.getD (i + q) 0 + (limbs a).getD i 0 * (limbs b).getD q 0 + c) / 1073741824) st.1 st.2 (by exact QZ rfl ⟨rfl, rfl, rfl, rfl, rfl, by simp only [Int.natCast_add]; rfl, trivial⟩)
      · have fe := fin g1 g2
        clear step fin
        (refine Qe (Qz (Qx fun K hK => ?_)); refine Qq rfl rfl rfl ?_; refine Qw (iadd (by omega) (by omega)) rfl rfl rfl rfl ?_; refine Qv rfl rfl rfl ?_; refine Qj (hK _ _ (Q5 ?_)); clear hK K)
        refine Q8 (i + 1, zs) (by dsimp only; omega) fe (by exact QZ rfl ⟨rfl, rfl, rfl, by simp only [Int.natCast_add]; rfl, trivial⟩)
  · have hi' : i = (limbs a).length := by omega
    have e4 : trimL out = limbs (a * b) := by
      rw [trim_limbs hok, hv, hi', pre_all (Nat.le_refl _), val_limbs]
      congr 1
    refine XW 0 _ rfl (ints_frozen _ _) noBor_sub ?_
    (refine Qe (Qz (Qy (Qx fun K hK => ?_))); refine Qq rfl rfl rfl ?_)
    refine QX gorTrim (rTrim_ok out (by omega)) rfl rfl rfl rfl ?_
    rw [e4]
    (refine Qv rfl rfl rfl ?_; refine Qj (hK _ _ (Qz (Q3 ?_))); clear hK K)
    refine QK [_] rfl (QQ rfl Qu) rfl rfl
theorem gorTimes : InGo Tryz.prog 94 := InGo.of Tryz.func94 (by kernel_rfl) (by kernel_rfl)
end Go.Proofs.YtdhmbgogmoaofaaGreat
namespace Go.Proofs.YtdhmbgogmoaofaaGreat
open Go.Own Go.Limbs
attribute [local irreducible] St Ops Go.Own.Fin Ok
theorem uU64 : Tryz.prog.underlying 149 = some (.int .u64) := Tryz.underlying149
theorem uI64 : Tryz.prog.underlying 3 = some (.int .i64) := Tryz.underlying3
abbrev wordC (x : Int) : CT := .ex (.int .u64 x)
set_option maxHeartbeats 2000000 in
theorem rWord_ok (n : Nat) (hn : n < 18446744073709551616) : Ok Tryz.prog 147 [wordC n] (natC n) := by
  refine Ok.enter Tryz.func147 rfl _ Tryz.ntmps147 rfl ?_
  intro S w
  (refine Qy (Qx fun K hK => ?_); refine Qv rfl rfl rfl ?_; refine Qj (hK _ _ (Qz (Qy ?_))); clear hK K; refine Qx (fun K hK => ?_); refine Qv rfl rfl rfl ?_; refine Qj (hK _ _ (Qz (Qy (Q2 ?_)))); clear hK K)
  refine X4 3 0 3 1 rfl rfl rfl ?_
  skip
  refine Ql (α := Nat × List Int) (fun s => s.1 ≤ n ∧ limbs n = s.2 ++ limbs s.1)
    (fun s => [(0, .ct (wordC s.1)), (3, .own 0)]) (fun s => [(0, .row 3 1 (ints s.2))]) (fun s => s.1) (n, []) ⟨Nat.le_refl _, rfl⟩ (by exact QZ rfl ⟨rfl, rfl, trivial⟩) ?_
  rintro ⟨m, zs⟩ ⟨hm, hv⟩
  dsimp only at hm hv ⊢
  have hl : zs.length ≤ 64 := by
    have h1 := congrArg List.length hv
    have h2 := limbs_length_le (n := n) (k := 3) (by omega)
    simp at h1; omega
  (refine Qy (Qy (Qx fun K hK => ?_)); refine Qq rfl rfl rfl ?_; refine Qw igtr rfl rfl rfl rfl ?_; refine Qj (hK _ _ (Qz ?_)); clear hK K)
  refine Q0 rfl (fun h => ?_) (fun h => ?_)
  · (refine QU (Qz (Qy (Q2 (Qx fun K hK => ?_)))); refine Qq rfl rfl rfl ?_; refine Qq rfl rfl rfl ?_)
    refine Qw (urem (by omega) (by omega)) rfl rfl rfl rfl ?_
    refine X6 rfl rfl (by with_reducible exact uU64) (by with_reducible exact uI64) (wrap_id (by omega) (by omega)) rfl ?_
    refine Xx rfl rfl (by with_reducible exact sNat) rfl rfl rfl ?_
    refine Qh zs.length (ints (zs ++ [(m : Int) % 1073741824])) rfl rfl rfl rfl (by with_reducible exact sNat) (by simp [ints]) rfl (by omega) (by omega) (by simp [ints]) rfl ?_
    (refine Qv rfl rfl rfl ?_; refine Qj (hK _ _ (Qz ?_)); clear hK K; refine Qx (fun K hK => ?_); refine Qq rfl rfl rfl ?_)
    refine Qw (uquo (by omega) (by omega) (by omega)) rfl rfl rfl rfl ?_
    (refine Qv rfl rfl rfl ?_; refine Qj (hK _ _ (Q5 ?_)); clear hK K)
    refine Q8 (m / 1073741824, zs ++ [(m : Int) % 1073741824]) (by dsimp only; omega) ⟨by dsimp only; omega, ?_⟩ ?_
    all_goals dsimp only
    · rw [hv, limbs_pos (n := m) (by omega)]; simp
    · exact QZ rfl ⟨by rw [Int.natCast_ediv]; rfl, rfl, trivial⟩
  · have : m = 0 := by omega
    subst this
    rw [limbs_zero, List.append_nil] at hv
    subst hv
    refine XW 0 _ rfl (ints_frozen _ _) noBor_sub ?_
    (refine Qe (Qz (Qy (Qx fun K hK => ?_))); refine Qq rfl rfl rfl ?_; refine Qv rfl rfl rfl ?_; refine Qj (hK _ _ (Qz (Q3 ?_))); clear hK K)
    refine QK [_] rfl (QQ rfl Qu) rfl rfl
theorem gorWord : InGo Tryz.prog 147 := InGo.of Tryz.func147 (by kernel_rfl) (by kernel_rfl)
end Go.Proofs.YtdhmbgogmoaofaaGreat
namespace Go.Proofs.YtdhmbgogmoaofaaGreat
open Go.Own Go.Limbs
attribute [local irreducible] St Ops Go.Own.Fin Ok
theorem cmpI_le {a b : Int} : cmpI a b ≤ 0 ↔ a ≤ b := by unfold cmpI; split <;> (try split) <;> omega
theorem rTimes_one (b m : Nat) (h0 : 0 < m) (h1 : m < 1073741824) (hl : (limbs b).length ≤ 100000) : Ok Tryz.prog 94 [natC b, .fr (sliceT 1 [[intC m]])] (natC (b * m)) := by
  have h := rTimes_ok b m (by rw [limbs_one h0 h1]; simp; omega)
  have e : natC m = .fr (sliceT 1 [[intC m]]) := by show intsC (limbs m) = _; rw [limbs_one h0 h1]; rfl
  rw [← e]; exact h
theorem split_step {v b r R A p x P d : Int} (K : Int) (hR : R = r * K + x) (hv : v * b + r * (P * K) = A - (p + x * P)) : (v + d * P) * b + (R - b * d) * P = A - p := by
  subst hR; grind
theorem len_lt_mul {R b k : Nat} (h : (limbs b).length ≤ k) (hR : R < b * 1073741824) : (limbs R).length ≤ k + 1 := by
  refine limbs_length_le ?_
  rw [Nat.pow_succ]
  exact Nat.lt_trans hR (Nat.mul_lt_mul_of_pos_right (lt_of_limbs_length h) (by decide))
set_option maxHeartbeats 4000000 in
theorem rSplit_ok (a b : Nat) (hb : 0 < b) (la : (limbs a).length ≤ 10000) (lb : (limbs b).length ≤ 10000) : Ok Tryz.prog 103 [natC a, natC b] (.fr (tupT [natC (a / b), natC (a % b)])) := by
  refine Ok.enter Tryz.func103 rfl _ Tryz.ntmps103 rfl ?_
  intro S w
  (refine Qy (Qx fun K hK => ?_); refine Qv rfl rfl rfl ?_; refine Qv rfl rfl rfl ?_; refine Qj (hK _ _ (Qz (Qy ?_))); clear hK K; refine Qx (fun K hK => ?_); refine Qq rfl rfl rfl ?_; refine Q4 rfl rfl (by with_reducible first | exact sNat.und | exact sInts.und) (List.length_map ..) rfl ?_)
  refine X5 0 (limbs a).length rfl rfl rfl rfl (by with_reducible exact sNat) (by omega) (by omega) rfl rfl rfl ?_
  rw [ints_made]
  (refine Qv rfl rfl rfl ?_; refine Qj (hK _ _ (Qz (Qy ?_))); clear hK K; refine Qx (fun K hK => ?_); refine Qv rfl rfl rfl ?_; refine Qj (hK _ _ (Qz (Qy (Qy ?_)))); clear hK K; refine Qx (fun K hK => ?_); refine Qq rfl rfl rfl ?_; refine Q4 rfl rfl (by with_reducible first | exact sNat.und | exact sInts.und) (List.length_map ..) rfl ?_; refine Qw (isub (by omega) (by omega)) rfl rfl rfl rfl ?_; refine Qv rfl rfl rfl ?_; refine Qj (hK _ _ (Qz (Q2 ?_))); clear hK K)
  refine St.asNil 7 1 rfl ?_
  refine Ql (α := Nat × List Int × Nat) (fun s => s.1 ≤ (limbs a).length ∧ s.2.1.length = (limbs a).length ∧ OKL s.2.1 ∧ (∀ j, j < s.1 → s.2.1.getD j 0 = 0) ∧ s.2.2 < b ∧ val s.2.1 * b + s.2.2 * BB ^ s.1 = val (limbs a) - pre (limbs a) s.1)
    (fun s => [(0, .ct (natC a)), (1, .ct (natC b)), (6, .own 0), (7, .ct (natC s.2.2)), (8, .ct (intC ((s.1 : Int) - 1)))])
    (fun s => [(0, .row 3 1 (ints s.2.1))]) (fun s => s.1) ((limbs a).length, List.replicate (limbs a).length 0, 0) ⟨Nat.le_refl _, by simp, OKL.zeros _, ?_, hb, ?_⟩ (by exact QZ rfl ⟨rfl, rfl, rfl, by rw [natC_zero]; rfl, rfl, trivial⟩) ?_
  · intro j _; simp [List.getD_eq_getElem?_getD, List.getElem?_replicate]; split <;> rfl
  · dsimp only; rw [val_zeros, pre_all (Nat.le_refl _)]; simp
  rintro ⟨q, zs, rr⟩ ⟨hq, hzl, hok, hz, hrb, hv⟩
  dsimp only at hq hzl hok hz hrb hv ⊢
  (refine Qy (Qy (Qx fun K hK => ?_)); refine Qq rfl rfl rfl ?_; refine Qw igeq rfl rfl rfl rfl ?_; refine Qj (hK _ _ (Qz ?_)); clear hK K)
  refine Q0 rfl (fun h => ?_) (fun h => ?_)
  · obtain ⟨i, rfl⟩ : ∃ i, q = i + 1 := ⟨q - 1, by omega⟩
    have e1 : (((i + 1 : Nat) : Int) - 1) = (i : Int) := by omega
    have e2 : (i : Int).toNat = i := Int.toNat_natCast i
    have e3 : (i : Int).toNat * 1 = i := by omega
    have bx := (limbs_ok a).get i
    simp only [BB] at bx
    obtain ⟨R, hR⟩ : ∃ R : Nat, (R : Int) = rr * 1073741824 + (limbs a).getD i 0 := ⟨((rr : Int) * 1073741824 + (limbs a).getD i 0).toNat, by omega⟩
    have lrr : (limbs rr).length ≤ 10000 := Nat.le_trans (limbs_len_mono (Nat.le_of_lt hrb)) lb
    have eT : trimL ((limbs a).getD i 0 :: limbs rr) = limbs R := by
      rw [trim_limbs (OKL.cons (by simp only [BB]; omega) (limbs_ok rr))]
      simp only [val]; rw [val_limbs]; congr 1; simp only [BB]; omega
    have hRb : R < b * 1073741824 := by
      have h1 : (rr + 1) * 1073741824 ≤ b * 1073741824 := Nat.mul_le_mul_right _ (by omega)
      omega
    have lR : (limbs R).length ≤ 10001 := len_lt_mul lb hRb
    rw [pre_succ, Int.pow_succ] at hv
    rw [e1]
    (refine QU (Qz (Qy (Q2 (Qy (Qx fun K hK => ?_))))); refine Qq rfl rfl rfl ?_; refine Qq rfl rfl rfl ?_; refine Qf rfl rfl rfl (by with_reducible first | exact sNat | exact sInts) (by omega) (ints_at (by omega) (by omega)) rfl ?_; refine Qm rfl rfl rfl (by with_reducible first | exact lInt | exact lNat | exact lBool | exact lInts) rfl ?_)
    rw [e2]
    refine Ops.lit1E 1 rfl rfl (by with_reducible exact sNat) rfl rfl rfl rfl rfl ?_
    (refine Qq rfl rfl rfl ?_)
    refine Ops.append 1 (ints ((limbs a).getD i 0 :: limbs rr)) rfl rfl rfl rfl (by with_reducible exact sNat) rfl ?_ (by simp; omega) (by simp; omega) ?_ rfl ?_
    · rw [flat_one]; exact ints_ones _
    · rw [flat_one]; rfl
    refine Ops.freeze 1 _ rfl (ints_frozen _ _) noBor_sub ?_
    refine QX gorTrim (rTrim_ok _ (by simp; omega)) rfl rfl rfl rfl ?_
    rw [eT]
    (refine Qv rfl rfl rfl ?_; refine Qj (hK _ _ (Qz (Qy (Qy ?_)))); clear hK K; refine Qx (fun K hK => ?_); refine Qq rfl rfl rfl ?_; refine Qq rfl rfl rfl ?_)
    refine QX gorCompare (rCompare_ok R b (by omega) (by omega)) rfl rfl rfl rfl ?_
    (refine Qw ilss rfl rfl rfl rfl ?_; refine Qj (hK _ _ (Qz ?_)); clear hK K)
    refine Q0 rfl (fun h2 => ?_) (fun h2 => ?_)
    · rw [cmpI_neg] at h2
      (refine Qe (Qz (Qx fun K hK => ?_)); refine Qq rfl rfl rfl ?_; refine Qw (isub (by omega) (by omega)) rfl rfl rfl rfl ?_; refine Qv rfl rfl rfl ?_; refine Qj (hK _ _ (Q5 ?_)); clear hK K)
      refine Q8 (i, zs, R) (by dsimp only; omega) ⟨by dsimp only; omega, hzl, hok, fun j hj => hz j (by dsimp only at hj; omega), by dsimp only; omega, ?_⟩ (by exact QZ rfl ⟨rfl, rfl, rfl, rfl, rfl, trivial⟩)
      dsimp only
      have := split_step (d := 0) BB hR hv
      simpa using this
    · rw [cmpI_neg] at h2
      (refine QU (Qz (Qy (Qx fun K hK => ?_))); refine Qv rfl rfl rfl ?_; refine Qv rfl rfl rfl ?_; refine Qj (hK _ _ (Qz (Qy (Q2 ?_)))); clear hK K)
      refine Ql (α := Nat × Nat) (fun s => 1 ≤ s.1 ∧ s.1 ≤ s.2 ∧ s.2 ≤ 1073741823 ∧ b * s.1 ≤ R ∧ R < b * (s.2 + 1))
        (fun s => [(0, .ct (natC a)), (1, .ct (natC b)), (6, .own 0), (7, .ct (natC R)), (8, .ct (intC i)), (9, .ct (intC s.1)), (10, .ct (intC s.2))])
        (fun _ => [(0, .row 3 1 (ints zs))]) (fun s => s.2 - s.1) (1, 1073741823) ⟨Nat.le_refl _, by decide, Nat.le_refl _, by omega, hRb⟩ (by exact QZ rfl ⟨rfl, rfl, rfl, rfl, rfl, rfl, rfl, trivial⟩) ?_
      rintro ⟨lo, hi⟩ ⟨k1, k2, k3, k4, k5⟩
      dsimp only at k1 k2 k3 k4 k5 ⊢
      (refine Qy (Qy (Qx fun K hK => ?_)); refine Qq rfl rfl rfl ?_; refine Qq rfl rfl rfl ?_; refine Qw ilss rfl rfl rfl rfl ?_; refine Qj (hK _ _ (Qz ?_)); clear hK K)
      refine Q0 rfl (fun h3 => ?_) (fun h3 => ?_)
      · obtain ⟨m, hm⟩ : ∃ m : Nat, m = (lo + hi + 1) / 2 := ⟨_, rfl⟩
        have em : ((lo : Int) + hi + 1) / 2 = (m : Int) := by omega
        have lbm : (limbs (b * m)).length ≤ 10001 := Nat.le_trans limbs_mul_len (by
          have := limbs_length_le (n := m) (k := 1) (by omega)
          omega)
        (refine QU (Qz (Q2 (Qy (Qx fun K hK => ?_)))); refine Qq rfl rfl rfl ?_; refine Qq rfl rfl rfl ?_; refine Qw (iadd (by omega) (by omega)) rfl rfl rfl rfl ?_; refine Qw (iadd (by omega) (by omega)) rfl rfl rfl rfl ?_; refine Qw (iquo (by omega) (by omega) (by omega)) rfl rfl rfl rfl ?_; refine Qv rfl rfl rfl ?_; refine Qj (hK _ _ (Qz (Qy ?_))); clear hK K; refine Qx (fun K hK => ?_); refine Qq rfl rfl rfl ?_; refine Qq rfl rfl rfl ?_)
        rw [em]
        skip
        refine Xx rfl rfl (by with_reducible exact sNat) rfl rfl rfl ?_
        refine QX gorTimes (rTimes_one b m (by omega) (by omega) (by omega)) rfl rfl rfl rfl ?_
        (refine Qq rfl rfl rfl ?_)
        refine QX gorCompare (rCompare_ok (b * m) R (by omega) (by omega)) rfl rfl rfl rfl ?_
        (refine Qw ileq rfl rfl rfl rfl ?_; refine Qj (hK _ _ (Qz ?_)); clear hK K)
        refine Q0 rfl (fun h4 => ?_) (fun h4 => ?_)
        · rw [cmpI_le] at h4
          (refine Qx (fun K hK => ?_); refine Qq rfl rfl rfl ?_; refine Qv rfl rfl rfl ?_; refine Qj (hK _ _ (Xw (Q5 ?_))); clear hK K)
          refine Q8 (m, hi) (by dsimp only; omega) ⟨by dsimp only; omega, by dsimp only; omega, k3, by dsimp only; omega, k5⟩ (by exact QZ rfl ⟨rfl, rfl, rfl, rfl, rfl, rfl, rfl, trivial⟩)
        · rw [cmpI_le] at h4
          (refine Qx (fun K hK => ?_); refine Qq rfl rfl rfl ?_; refine Qw (isub (by omega) (by omega)) rfl rfl rfl rfl ?_; refine Qv rfl rfl rfl ?_; refine Qj (hK _ _ (Xw (Q5 ?_))); clear hK K)
          refine Q8 (lo, m - 1) (by dsimp only; omega) ⟨k1, by dsimp only; omega, by dsimp only; omega, k4, ?_⟩ (by exact QZ rfl ⟨rfl, rfl, rfl, rfl, rfl, rfl, by rw [show ((m - 1 : Nat) : Int) = (m : Int) - 1 by omega]; rfl, trivial⟩)
          dsimp only
          rw [show m - 1 + 1 = m by omega]; omega
      · have h6 : lo = hi := by omega
        subst h6
        have lbm : (limbs (b * lo)).length ≤ 10001 := Nat.le_trans limbs_mul_len (by
          have := limbs_length_le (n := lo) (k := 1) (by omega)
          omega)
        (refine Qe (Qz (Qy (Qx fun K hK => ?_))); refine Qq rfl rfl rfl ?_; refine Qq rfl rfl rfl ?_; refine Qq rfl rfl rfl ?_)
        refine Xv (limbs a).length rfl rfl rfl (by simp [ints]; omega) rfl (by with_reducible exact sNat) (by omega) (by omega) rfl ?_
        rw [e3]
        refine Qn rfl rfl rfl rfl rfl (by with_reducible exact zInt) (by simp [Ent.cs, ints]; omega) ?_
        simp only [Ent.setc, ints_set]
        (refine Qj (hK _ _ (Qz ?_)); clear hK K; refine Qx (fun K hK => ?_); refine Qq rfl rfl rfl ?_; refine Qq rfl rfl rfl ?_; refine Qq rfl rfl rfl ?_)
        refine Xx rfl rfl (by with_reducible exact sNat) rfl rfl rfl ?_
        refine QX gorTimes (rTimes_one b lo (by omega) (by omega) (by omega)) rfl rfl rfl rfl ?_
        refine QX gorLess (rLess_ok R (b * lo) k4 (by omega)) rfl rfl rfl rfl ?_
        (refine Qv rfl rfl rfl ?_; refine Qj (hK _ _ (Qz ?_)); clear hK K; refine Qx (fun K hK => ?_); refine Qq rfl rfl rfl ?_; refine Qw (isub (by omega) (by omega)) rfl rfl rfl rfl ?_; refine Qv rfl rfl rfl ?_; refine Qj (hK _ _ (Q5 ?_)); clear hK K)
        refine Q8 (i, zs.set i (lo : Int), R - b * lo) (by dsimp only; omega) ⟨by dsimp only; omega, by simp [hzl], ?_, ?_, ?_, ?_⟩ (by exact QZ rfl ⟨rfl, rfl, rfl, rfl, rfl, trivial⟩)
        all_goals dsimp only
        · exact hok.set _ (by simp only [BB]; omega)
        · intro j hj; rw [getD_set (by omega), if_neg (by omega)]; exact hz j (by omega)
        · rw [Nat.mul_add] at k5; omega
        · rw [val_set (by omega), hz i (by omega), Int.sub_zero, show ((R - b * lo : Nat) : Int) = (R : Int) - b * lo by rw [Int.natCast_sub k4, Int.natCast_mul]]
          exact split_step BB hR hv
  · have hq0 : q = 0 := by omega
    subst hq0
    have e4 : val zs * b + rr = a := by rw [pre_zero, val_limbs] at hv; simpa using hv
    have hvz := val_nonneg hok
    obtain ⟨Q, hQ⟩ : ∃ Q : Nat, val zs = Q := ⟨(val zs).toNat, by omega⟩
    rw [hQ] at e4
    have e4' : a = rr + Q * b := by
      have : ((Q * b + rr : Nat) : Int) = a := by rw [Int.natCast_add, Int.natCast_mul]; exact e4
      omega
    have e5 : a / b = Q ∧ a % b = rr := by
      rw [e4']
      constructor
      · rw [Nat.add_mul_div_right _ _ hb, Nat.div_eq_of_lt hrb]; omega
      · rw [Nat.add_mul_mod_self_right, Nat.mod_eq_of_lt hrb]
    refine XW 0 _ rfl (ints_frozen _ _) noBor_sub ?_
    (refine Qe (Qz (Qy (Qx fun K hK => ?_))); refine Qq rfl rfl rfl ?_)
    refine QX gorTrim (rTrim_ok zs (by omega)) rfl rfl rfl rfl ?_
    rw [trim_limbs hok, hQ, Int.toNat_natCast]
    (refine Qq rfl rfl rfl ?_; refine Qv rfl rfl rfl ?_; refine Qv rfl rfl rfl ?_; refine Qj (hK _ _ (Qz (Q3 ?_))); clear hK K)
    refine QK [_, _] rfl (QQ rfl (QQ rfl Qu)) (by rw [e5.1, e5.2]; rfl) rfl
theorem gorSplit : InGo Tryz.prog 103 := InGo.of Tryz.func103 (by kernel_rfl) (by kernel_rfl)
end Go.Proofs.YtdhmbgogmoaofaaGreat
namespace Go.Proofs.YtdhmbgogmoaofaaGreat
open Go.Own Go.Limbs
attribute [local irreducible] St Ops Go.Own.Fin Ok
theorem limbs_get0 {x : Nat} (h : x ≠ 0) : (limbs x).getD 0 0 = ((x % 1073741824 : Nat) : Int) := by rw [limbs_pos h]; rfl
theorem gcd_half {x y : Nat} (hx : x % 2 = 0) (hy : y % 2 = 1) : Nat.gcd (x / 2) y = Nat.gcd x y := by
  have e : x = 2 * (x / 2) := by omega
  have hc : Nat.Coprime 2 y := by
    unfold Nat.Coprime
    rw [Nat.gcd_rec, hy]; rfl
  conv => rhs; rw [e]
  exact (hc.gcd_mul_left_cancel _).symm
theorem gcd_two {x y : Nat} (hx : x % 2 = 0) (hy : y % 2 = 0) : 2 * Nat.gcd (x / 2) (y / 2) = Nat.gcd x y := by
  rw [← Nat.gcd_mul_left, show 2 * (x / 2) = x by omega, show 2 * (y / 2) = y by omega]
theorem gcd_less {x y : Nat} (h : y ≤ x) : Nat.gcd (x - y) y = Nat.gcd x y := by
  conv => rhs; rw [show x = (x - y) + y by omega]
  rw [Nat.gcd_add_self_left]
theorem len_add {x y k : Nat} (h1 : x < 1073741824 ^ k) (h2 : y < 1073741824 ^ k) : (limbs (x + y)).length ≤ k + 1 := by
  refine limbs_length_le ?_
  rw [Nat.pow_succ]; omega
set_option maxHeartbeats 8000000 in
theorem rGcd_ok (a b : Nat) (la : (limbs a).length ≤ 10000) (lb : (limbs b).length ≤ 10000) : Ok Tryz.prog 140 [natC a, natC b] (natC (Nat.gcd a b)) := by
  refine Ok.enter Tryz.func140 rfl _ Tryz.ntmps140 rfl ?_
  intro S w
  (refine Qy (Qx fun K hK => ?_); refine Qv rfl rfl rfl ?_; refine Qj (hK _ _ (Qz (Qy (Qy ?_)))); clear hK K; refine Qx (fun K hK => ?_); refine Qq rfl rfl rfl ?_; refine Q4 rfl rfl (by with_reducible first | exact sNat.und | exact sInts.und) (List.length_map ..) rfl ?_; refine Qw ieql rfl rfl rfl rfl ?_; refine Qq rfl rfl rfl ?_)
  have early : (limbs a).length = 0 ∨ (limbs b).length = 0 → natC (Nat.gcd a b) = natC (a + b) := by
    rintro (h | h)
    · have : a = 0 := limbs_nil (List.eq_nil_of_length_eq_zero h)
      subst this; simp
    · have : b = 0 := limbs_nil (List.eq_nil_of_length_eq_zero h)
      subst this; simp
  refine Qg 9 rfl (fun g1 => ?_) (fun g1 => ?_)
  · have ee := early (.inl (by omega))
    (refine Qk rfl rfl rfl ?_; refine Qk rfl rfl rfl ?_; refine Qk rfl rfl rfl ?_; refine Q7 rfl rfl rfl rfl ?_; refine Qj (hK _ _ (Qz (Xk rfl (Qy ?_)))); clear hK K; refine Qx (fun K hK => ?_); refine Qq rfl rfl rfl ?_; refine Qq rfl rfl rfl ?_)
    refine QX gorPlus (rPlus_ok a b (by omega) (by omega)) rfl rfl rfl rfl ?_
    (refine Qv rfl rfl rfl ?_; refine Qj (hK _ _ (Qz (Q3 (QW ?_)))); clear hK K)
    refine QK [_] rfl (QQ rfl Qu) (by rw [ee]; rfl) rfl
  · (refine Qq rfl rfl rfl ?_; refine Q4 rfl rfl (by with_reducible first | exact sNat.und | exact sInts.und) (List.length_map ..) rfl ?_; refine Qw ieql rfl rfl rfl rfl ?_; refine Q6 rfl rfl rfl rfl ?_; refine Qj (hK _ _ (Qz ?_)); clear hK K)
    refine Q0 rfl (fun g2 => ?_) (fun g2 => ?_)
    · have ee := early (.inr (by omega))
      (refine Qy (Qx fun K hK => ?_); refine Qq rfl rfl rfl ?_; refine Qq rfl rfl rfl ?_)
      refine QX gorPlus (rPlus_ok a b (by omega) (by omega)) rfl rfl rfl rfl ?_
      (refine Qv rfl rfl rfl ?_; refine Qj (hK _ _ (Qz (Q3 (QW ?_)))); clear hK K)
      refine QK [_] rfl (QQ rfl Qu) (by rw [ee]; rfl) rfl
    · have ha0 : a ≠ 0 := limbs_len_pos.mp (by omega)
      have hb0 : b ≠ 0 := limbs_len_pos.mp (by omega)
      clear early
      have e11 : natC 1 = .fr (sliceT 1 [[intC 1]]) := by show intsC (limbs 1) = _; rw [limbs_one (by decide) (by decide)]; rfl
      have h00 : (0 : Int).toNat = 0 := rfl
      (refine QU (Qz (Qy (Qx fun K hK => ?_))))
      refine Xx rfl rfl (by with_reducible exact sNat) rfl rfl rfl ?_
      rw [← e11]
      (refine Qv rfl rfl rfl ?_; refine Qj (hK _ _ (Qz (Qy (Q2 ?_)))); clear hK K)
      refine Ql (α := Nat × Nat × Nat) (fun s => 0 < s.1 ∧ 0 < s.2.1 ∧ 0 < s.2.2 ∧ s.1 ≤ a ∧ s.2.1 ≤ b ∧ s.2.2 * s.1 ≤ a ∧ s.2.2 * Nat.gcd s.1 s.2.1 = Nat.gcd a b)
        (fun s => [(0, .ct (natC s.1)), (1, .ct (natC s.2.1)), (5, .ct (natC s.2.2))]) (fun _ => []) (fun s => s.1) (a, b, 1) ⟨by dsimp only; omega, by dsimp only; omega, Nat.one_pos, Nat.le_refl _, Nat.le_refl _, by dsimp only; omega, by dsimp only; omega⟩ (by exact QZ rfl ⟨rfl, rfl, rfl, trivial⟩) ?_
      rintro ⟨x, y, u⟩ ⟨hx, hy, hu, hxa, hyb, hua, hg⟩
      dsimp only at hx hy hu hxa hyb hua hg ⊢
      have lx : (limbs x).length ≤ 10000 := Nat.le_trans (limbs_len_mono hxa) la
      have ly : (limbs y).length ≤ 10000 := Nat.le_trans (limbs_len_mono hyb) lb
      have lu : (limbs u).length ≤ 10000 := Nat.le_trans (limbs_len_mono (Nat.le_trans (Nat.le_mul_of_pos_right u hx) hua)) la
      have px := limbs_len_pos.mpr (show x ≠ 0 by omega)
      have py := limbs_len_pos.mpr (show y ≠ 0 by omega)
      have gx := limbs_get0 (show x ≠ 0 by omega)
      have gy := limbs_get0 (show y ≠ 0 by omega)
      (refine Qy (Qy (Qx fun K hK => ?_)); refine Qq rfl rfl rfl ?_; refine Qf rfl rfl rfl (by with_reducible first | exact sNat | exact sInts) (by omega) (ints_at (by omega) (by omega)) rfl ?_; refine Qm rfl rfl rfl (by with_reducible first | exact lInt | exact lNat | exact lBool | exact lInts) rfl ?_)
      rw [h00, gx]
      (refine Qw (irem (by omega) (by omega)) rfl rfl rfl rfl ?_; refine Qw ieql rfl rfl rfl rfl ?_; refine Qq rfl rfl rfl ?_)
      refine Qg 23 rfl (fun g3 => ?_) (fun g3 => ?_)
      · (refine Qq rfl rfl rfl ?_; refine Qf rfl rfl rfl (by with_reducible first | exact sNat | exact sInts) (by omega) (ints_at (by omega) (by omega)) rfl ?_; refine Qm rfl rfl rfl (by with_reducible first | exact lInt | exact lNat | exact lBool | exact lInts) rfl ?_)
        rw [h00, gy]
        (refine Qw (irem (by omega) (by omega)) rfl rfl rfl rfl ?_; refine Qw ieql rfl rfl rfl rfl ?_; refine Q7 rfl rfl rfl rfl ?_; refine Qj (hK _ _ (Qz ?_)); clear hK K)
        refine Q0 rfl (fun g4 => ?_) (fun g4 => ?_)
        · (refine QU (Qz (Q2 (Qx fun K hK => ?_))); refine Qq rfl rfl rfl ?_)
          refine QX gorhalf (rhalf_ok x (by omega)) rfl rfl rfl rfl ?_
          (refine Qq rfl rfl rfl ?_)
          refine QX gorhalf (rhalf_ok y (by omega)) rfl rfl rfl rfl ?_
          (refine Qq rfl rfl rfl ?_; refine Qq rfl rfl rfl ?_)
          refine QX gorPlus (rPlus_ok u u (by omega) (by omega)) rfl rfl rfl rfl ?_
          (refine Qv rfl rfl rfl ?_; refine Qv rfl rfl rfl ?_; refine Qv rfl rfl rfl ?_; refine Qj (hK _ _ (Xw (Q5 ?_))); clear hK K)
          have q1 := gcd_two (x := x) (y := y) (by omega) (by omega)
          refine Q8 (x / 2, y / 2, u + u) (by dsimp only; omega) ⟨by dsimp only; omega, by dsimp only; omega, by dsimp only; omega, by dsimp only; omega, by dsimp only; omega, ?_, ?_⟩ (by exact QZ rfl ⟨rfl, rfl, rfl, trivial⟩)
          · dsimp only
            rw [← Nat.two_mul, Nat.mul_comm 2 u, Nat.mul_assoc, show 2 * (x / 2) = x by omega]; exact hua
          · dsimp only
            rw [← Nat.two_mul, Nat.mul_comm 2 u, Nat.mul_assoc, q1]; exact hg
        · have hodd : x % 2 = 1 ∨ y % 2 = 1 := by omega
          clear g3 g4 gx gy
          (refine Qe (Qz (Qy (Q2 ?_))))
          refine Ql (α := Nat × Nat) (fun s => s.1 ≤ a ∧ s.2 ≤ b ∧ (s.1 % 2 = 1 ∨ s.2 % 2 = 1) ∧ u * Nat.gcd s.1 s.2 = Nat.gcd a b)
            (fun s => [(0, .ct (natC s.1)), (1, .ct (natC s.2)), (5, .ct (natC u))]) (fun _ => []) (fun s => s.1 + s.2) (x, y) ⟨hxa, hyb, hodd, hg⟩ (by exact QZ rfl ⟨rfl, rfl, rfl, trivial⟩) ?_
          clear hodd hg hxa hyb hua px py lx ly hx hy
          rintro ⟨p, q⟩ ⟨hpa, hqb, hodd, hg⟩
          dsimp only at hpa hqb hodd hg ⊢
          have lp : (limbs p).length ≤ 10000 := Nat.le_trans (limbs_len_mono hpa) la
          have lq : (limbs q).length ≤ 10000 := Nat.le_trans (limbs_len_mono hqb) lb
          have done : p = 0 ∨ q = 0 → natC (Nat.gcd a b) = natC (u * (p + q)) := by
            rintro (h | h)
            · subst h; rw [← hg]; simp
            · subst h; rw [← hg]; simp
          have lpq : (limbs (p + q)).length ≤ 10001 := by
            have h1 := lt_of_limbs_length lp
            have h2 := lt_of_limbs_length lq
            exact len_add h1 h2
          (refine Qy (Qy (Qx fun K hK => ?_)); refine Qq rfl rfl rfl ?_; refine Q4 rfl rfl (by with_reducible first | exact sNat.und | exact sInts.und) (List.length_map ..) rfl ?_; refine Qw igtr rfl rfl rfl rfl ?_; refine Qq rfl rfl rfl ?_)
          refine Qg 40 rfl (fun g5 => ?_) (fun g5 => ?_)
          · (refine Qq rfl rfl rfl ?_; refine Q4 rfl rfl (by with_reducible first | exact sNat.und | exact sInts.und) (List.length_map ..) rfl ?_; refine Qw igtr rfl rfl rfl rfl ?_; refine Q7 rfl rfl rfl rfl ?_; refine Qj (hK _ _ (Qz ?_)); clear hK K)
            refine Q0 rfl (fun g6 => ?_) (fun g6 => ?_)
            · have hp0 : p ≠ 0 := limbs_len_pos.mp (by omega)
              have hq0 : q ≠ 0 := limbs_len_pos.mp (by omega)
              have gp := limbs_get0 hp0
              have gq := limbs_get0 hq0
              clear done
              (refine QU (Qz (Q2 (Q2 (Qy (Qx fun K hK => ?_))))); refine Qq rfl rfl rfl ?_; refine Qf rfl rfl rfl (by with_reducible first | exact sNat | exact sInts) (by omega) (ints_at (by omega) (by omega)) rfl ?_; refine Qm rfl rfl rfl (by with_reducible first | exact lInt | exact lNat | exact lBool | exact lInts) rfl ?_)
              rw [h00, gp]
              (refine Qw (irem (by omega) (by omega)) rfl rfl rfl rfl ?_; refine Qw ieql rfl rfl rfl rfl ?_; refine Qv rfl rfl rfl ?_; refine Qj (hK _ _ (Qz ?_)); clear hK K)
              refine Q0 rfl (fun g7 => ?_) (fun g7 => ?_)
              · have q1 := gcd_half (x := p) (y := q) (by omega) (by omega)
                (refine Qx (fun K hK => ?_); refine Qq rfl rfl rfl ?_)
                refine QX gorhalf (rhalf_ok p (by omega)) rfl rfl rfl rfl ?_
                (refine Qv rfl rfl rfl ?_; refine Qj (hK _ _ (Xw (Xw (Q5 ?_)))); clear hK K)
                refine Q8 (p / 2, q) (by dsimp only; omega) ⟨by dsimp only; omega, hqb, by dsimp only; omega, by dsimp only; rw [q1]; exact hg⟩ (by exact QZ rfl ⟨rfl, rfl, rfl, trivial⟩)
              · (refine Qy (Qx fun K hK => ?_); refine Qq rfl rfl rfl ?_; refine Qf rfl rfl rfl (by with_reducible first | exact sNat | exact sInts) (by omega) (ints_at (by omega) (by omega)) rfl ?_; refine Qm rfl rfl rfl (by with_reducible first | exact lInt | exact lNat | exact lBool | exact lInts) rfl ?_)
                rw [h00, gq]
                (refine Qw (irem (by omega) (by omega)) rfl rfl rfl rfl ?_; refine Qw ieql rfl rfl rfl rfl ?_; refine Qv rfl rfl rfl ?_; refine Qj (hK _ _ (Qz ?_)); clear hK K)
                refine Q0 rfl (fun g8 => ?_) (fun g8 => ?_)
                · have q1 := gcd_half (x := q) (y := p) (by omega) (by omega)
                  (refine Qx (fun K hK => ?_); refine Qq rfl rfl rfl ?_)
                  refine QX gorhalf (rhalf_ok q (by omega)) rfl rfl rfl rfl ?_
                  (refine Qv rfl rfl rfl ?_; refine Qj (hK _ _ (Xw (Xw (Q5 ?_)))); clear hK K)
                  refine Q8 (p, q / 2) (by dsimp only; omega) ⟨hpa, by dsimp only; omega, by dsimp only; omega, by dsimp only; rw [Nat.gcd_comm, q1, Nat.gcd_comm]; exact hg⟩ (by exact QZ rfl ⟨rfl, rfl, rfl, trivial⟩)
                · (refine Qy (Qx fun K hK => ?_); refine Qq rfl rfl rfl ?_; refine Qq rfl rfl rfl ?_)
                  refine QX gorCompare (rCompare_ok p q (by omega) (by omega)) rfl rfl rfl rfl ?_
                  (refine Qw igeq rfl rfl rfl rfl ?_; refine Qv rfl rfl rfl ?_; refine Qj (hK _ _ (Qz ?_)); clear hK K)
                  refine Q0 rfl (fun g9 => ?_) (fun g9 => ?_)
                  · have hle : q ≤ p := by have := cmpI_neg (a := p) (b := q); omega
                    have q1 := gcd_less hle
                    (refine Qx (fun K hK => ?_); refine Qq rfl rfl rfl ?_; refine Qq rfl rfl rfl ?_)
                    refine QX gorLess (rLess_ok p q hle (by omega)) rfl rfl rfl rfl ?_
                    (refine Qv rfl rfl rfl ?_; refine Qj (hK _ _ (Xw (Xw (Q5 ?_)))); clear hK K)
                    refine Q8 (p - q, q) (by dsimp only; omega) ⟨by dsimp only; omega, hqb, by dsimp only; omega, by dsimp only; rw [q1]; exact hg⟩ (by exact QZ rfl ⟨rfl, rfl, rfl, trivial⟩)
                  · have hle : p ≤ q := by have := cmpI_neg (a := p) (b := q); omega
                    have q1 := gcd_less hle
                    (refine Qx (fun K hK => ?_); refine Qq rfl rfl rfl ?_; refine Qq rfl rfl rfl ?_)
                    refine QX gorLess (rLess_ok q p hle (by omega)) rfl rfl rfl rfl ?_
                    (refine Qv rfl rfl rfl ?_; refine Qj (hK _ _ (Xw (Xw (Q5 ?_)))); clear hK K)
                    refine Q8 (p, q - p) (by dsimp only; omega) ⟨hpa, by dsimp only; omega, by dsimp only; omega, by dsimp only; rw [Nat.gcd_comm, q1, Nat.gcd_comm]; exact hg⟩ (by exact QZ rfl ⟨rfl, rfl, rfl, trivial⟩)
            · have hd := done (.inr (limbs_nil (List.eq_nil_of_length_eq_zero (by omega))))
              (refine Qe (Qz (Qy (Qx fun K hK => ?_))); refine Qq rfl rfl rfl ?_; refine Qq rfl rfl rfl ?_; refine Qq rfl rfl rfl ?_)
              refine QX gorPlus (rPlus_ok p q (by omega) (by omega)) rfl rfl rfl rfl ?_
              refine QX gorTimes (rTimes_ok u (p + q) (by omega)) rfl rfl rfl rfl ?_
              (refine Qv rfl rfl rfl ?_; refine Qj (hK _ _ (Qz (Q3 ?_))); clear hK K)
              refine QK [_] rfl (QQ rfl Qu) (by rw [hd]; rfl) rfl
          · have hd := done (.inl (limbs_nil (List.eq_nil_of_length_eq_zero (by omega))))
            (refine Qk rfl rfl rfl ?_; refine Qk rfl rfl rfl ?_; refine Qk rfl rfl rfl ?_; refine Q6 rfl rfl rfl rfl ?_; refine Qj (hK _ _ (Qz (Qs rfl (Qe (Qz (Qy ?_)))))); clear hK K; refine Qx (fun K hK => ?_); refine Qq rfl rfl rfl ?_; refine Qq rfl rfl rfl ?_; refine Qq rfl rfl rfl ?_)
            refine QX gorPlus (rPlus_ok p q (by omega) (by omega)) rfl rfl rfl rfl ?_
            refine QX gorTimes (rTimes_ok u (p + q) (by omega)) rfl rfl rfl rfl ?_
            (refine Qv rfl rfl rfl ?_; refine Qj (hK _ _ (Qz (Q3 ?_))); clear hK K)
            refine QK [_] rfl (QQ rfl Qu) (by rw [hd]; rfl) rfl
      · have hodd : x % 2 = 1 ∨ y % 2 = 1 := by omega
        clear g3 gx gy
        (refine Qk rfl rfl rfl ?_; refine Qk rfl rfl rfl ?_; refine Qk rfl rfl rfl ?_; refine Qk rfl rfl rfl ?_; refine Qk rfl rfl rfl ?_; refine Q6 rfl rfl rfl rfl ?_; refine Qj (hK _ _ (Qz (Qs rfl (Qe (Qz (Qy (Q2 ?_))))))); clear hK K)
        refine Ql (α := Nat × Nat) (fun s => s.1 ≤ a ∧ s.2 ≤ b ∧ (s.1 % 2 = 1 ∨ s.2 % 2 = 1) ∧ u * Nat.gcd s.1 s.2 = Nat.gcd a b)
          (fun s => [(0, .ct (natC s.1)), (1, .ct (natC s.2)), (5, .ct (natC u))]) (fun _ => []) (fun s => s.1 + s.2) (x, y) ⟨hxa, hyb, hodd, hg⟩ (by exact QZ rfl ⟨rfl, rfl, rfl, trivial⟩) ?_
        clear hodd hg hxa hyb hua px py lx ly hx hy
        rintro ⟨p, q⟩ ⟨hpa, hqb, hodd, hg⟩
        dsimp only at hpa hqb hodd hg ⊢
        have lp : (limbs p).length ≤ 10000 := Nat.le_trans (limbs_len_mono hpa) la
        have lq : (limbs q).length ≤ 10000 := Nat.le_trans (limbs_len_mono hqb) lb
        have done : p = 0 ∨ q = 0 → natC (Nat.gcd a b) = natC (u * (p + q)) := by
          rintro (h | h)
          · subst h; rw [← hg]; simp
          · subst h; rw [← hg]; simp
        have lpq : (limbs (p + q)).length ≤ 10001 := by
          have h1 := lt_of_limbs_length lp
          have h2 := lt_of_limbs_length lq
          exact len_add h1 h2
        (refine Qy (Qy (Qx fun K hK => ?_)); refine Qq rfl rfl rfl ?_; refine Q4 rfl rfl (by with_reducible first | exact sNat.und | exact sInts.und) (List.length_map ..) rfl ?_; refine Qw igtr rfl rfl rfl rfl ?_; refine Qq rfl rfl rfl ?_)
        refine Qg 40 rfl (fun g5 => ?_) (fun g5 => ?_)
        · (refine Qq rfl rfl rfl ?_; refine Q4 rfl rfl (by with_reducible first | exact sNat.und | exact sInts.und) (List.length_map ..) rfl ?_; refine Qw igtr rfl rfl rfl rfl ?_; refine Q7 rfl rfl rfl rfl ?_; refine Qj (hK _ _ (Qz ?_)); clear hK K)
          refine Q0 rfl (fun g6 => ?_) (fun g6 => ?_)
          · have hp0 : p ≠ 0 := limbs_len_pos.mp (by omega)
            have hq0 : q ≠ 0 := limbs_len_pos.mp (by omega)
            have gp := limbs_get0 hp0
            have gq := limbs_get0 hq0
            clear done
            (refine QU (Qz (Q2 (Q2 (Qy (Qx fun K hK => ?_))))); refine Qq rfl rfl rfl ?_; refine Qf rfl rfl rfl (by with_reducible first | exact sNat | exact sInts) (by omega) (ints_at (by omega) (by omega)) rfl ?_; refine Qm rfl rfl rfl (by with_reducible first | exact lInt | exact lNat | exact lBool | exact lInts) rfl ?_)
            rw [h00, gp]
            (refine Qw (irem (by omega) (by omega)) rfl rfl rfl rfl ?_; refine Qw ieql rfl rfl rfl rfl ?_; refine Qv rfl rfl rfl ?_; refine Qj (hK _ _ (Qz ?_)); clear hK K)
            refine Q0 rfl (fun g7 => ?_) (fun g7 => ?_)
            · have q1 := gcd_half (x := p) (y := q) (by omega) (by omega)
              (refine Qx (fun K hK => ?_); refine Qq rfl rfl rfl ?_)
              refine QX gorhalf (rhalf_ok p (by omega)) rfl rfl rfl rfl ?_
              (refine Qv rfl rfl rfl ?_; refine Qj (hK _ _ (Xw (Xw (Q5 ?_)))); clear hK K)
              refine Q8 (p / 2, q) (by dsimp only; omega) ⟨by dsimp only; omega, hqb, by dsimp only; omega, by dsimp only; rw [q1]; exact hg⟩ (by exact QZ rfl ⟨rfl, rfl, rfl, trivial⟩)
            · (refine Qy (Qx fun K hK => ?_); refine Qq rfl rfl rfl ?_; refine Qf rfl rfl rfl (by with_reducible first | exact sNat | exact sInts) (by omega) (ints_at (by omega) (by omega)) rfl ?_; refine Qm rfl rfl rfl (by with_reducible first | exact lInt | exact lNat | exact lBool | exact lInts) rfl ?_)
              rw [h00, gq]
              (refine Qw (irem (by omega) (by omega)) rfl rfl rfl rfl ?_; refine Qw ieql rfl rfl rfl rfl ?_; refine Qv rfl rfl rfl ?_; refine Qj (hK _ _ (Qz ?_)); clear hK K)
              refine Q0 rfl (fun g8 => ?_) (fun g8 => ?_)
              · have q1 := gcd_half (x := q) (y := p) (by omega) (by omega)
                (refine Qx (fun K hK => ?_); refine Qq rfl rfl rfl ?_)
                refine QX gorhalf (rhalf_ok q (by omega)) rfl rfl rfl rfl ?_
                (refine Qv rfl rfl rfl ?_; refine Qj (hK _ _ (Xw (Xw (Q5 ?_)))); clear hK K)
                refine Q8 (p, q / 2) (by dsimp only; omega) ⟨hpa, by dsimp only; omega, by dsimp only; omega, by dsimp only; rw [Nat.gcd_comm, q1, Nat.gcd_comm]; exact hg⟩ (by exact QZ rfl ⟨rfl, rfl, rfl, trivial⟩)
              · (refine Qy (Qx fun K hK => ?_); refine Qq rfl rfl rfl ?_; refine Qq rfl rfl rfl ?_)
                refine QX gorCompare (rCompare_ok p q (by omega) (by omega)) rfl rfl rfl rfl ?_
                (refine Qw igeq rfl rfl rfl rfl ?_; refine Qv rfl rfl rfl ?_; refine Qj (hK _ _ (Qz ?_)); clear hK K)
                refine Q0 rfl (fun g9 => ?_) (fun g9 => ?_)
                · have hle : q ≤ p := by have := cmpI_neg (a := p) (b := q); omega
                  have q1 := gcd_less hle
                  (refine Qx (fun K hK => ?_); refine Qq rfl rfl rfl ?_; refine Qq rfl rfl rfl ?_)
                  refine QX gorLess (rLess_ok p q hle (by omega)) rfl rfl rfl rfl ?_
                  (refine Qv rfl rfl rfl ?_; refine Qj (hK _ _ (Xw (Xw (Q5 ?_)))); clear hK K)
                  refine Q8 (p - q, q) (by dsimp only; omega) ⟨by dsimp only; omega, hqb, by dsimp only; omega, by dsimp only; rw [q1]; exact hg⟩ (by exact QZ rfl ⟨rfl, rfl, rfl, trivial⟩)
                · have hle : p ≤ q := by have := cmpI_neg (a := p) (b := q); omega
                  have q1 := gcd_less hle
                  (refine Qx (fun K hK => ?_); refine Qq rfl rfl rfl ?_; refine Qq rfl rfl rfl ?_)
                  refine QX gorLess (rLess_ok q p hle (by omega)) rfl rfl rfl rfl ?_
                  (refine Qv rfl rfl rfl ?_; refine Qj (hK _ _ (Xw (Xw (Q5 ?_)))); clear hK K)
                  refine Q8 (p, q - p) (by dsimp only; omega) ⟨hpa, by dsimp only; omega, by dsimp only; omega, by dsimp only; rw [Nat.gcd_comm, q1, Nat.gcd_comm]; exact hg⟩ (by exact QZ rfl ⟨rfl, rfl, rfl, trivial⟩)
          · have hd := done (.inr (limbs_nil (List.eq_nil_of_length_eq_zero (by omega))))
            (refine Qe (Qz (Qy (Qx fun K hK => ?_))); refine Qq rfl rfl rfl ?_; refine Qq rfl rfl rfl ?_; refine Qq rfl rfl rfl ?_)
            refine QX gorPlus (rPlus_ok p q (by omega) (by omega)) rfl rfl rfl rfl ?_
            refine QX gorTimes (rTimes_ok u (p + q) (by omega)) rfl rfl rfl rfl ?_
            (refine Qv rfl rfl rfl ?_; refine Qj (hK _ _ (Qz (Q3 ?_))); clear hK K)
            refine QK [_] rfl (QQ rfl Qu) (by rw [hd]; rfl) rfl
        · have hd := done (.inl (limbs_nil (List.eq_nil_of_length_eq_zero (by omega))))
          (refine Qk rfl rfl rfl ?_; refine Qk rfl rfl rfl ?_; refine Qk rfl rfl rfl ?_; refine Q6 rfl rfl rfl rfl ?_; refine Qj (hK _ _ (Qz (Qs rfl (Qe (Qz (Qy ?_)))))); clear hK K; refine Qx (fun K hK => ?_); refine Qq rfl rfl rfl ?_; refine Qq rfl rfl rfl ?_; refine Qq rfl rfl rfl ?_)
          refine QX gorPlus (rPlus_ok p q (by omega) (by omega)) rfl rfl rfl rfl ?_
          refine QX gorTimes (rTimes_ok u (p + q) (by omega)) rfl rfl rfl rfl ?_
          (refine Qv rfl rfl rfl ?_; refine Qj (hK _ _ (Qz (Q3 ?_))); clear hK K)
          refine QK [_] rfl (QQ rfl Qu) (by rw [hd]; rfl) rfl
theorem gorGcd : InGo Tryz.prog 140 := InGo.of Tryz.func140 (by kernel_rfl) (by kernel_rfl)
end Go.Proofs.YtdhmbgogmoaofaaGreat
namespace Go.Proofs.YtdhmbgogmoaofaaGreat
open Go.Own Go.Limbs
attribute [local irreducible] St Ops Go.Own.Fin Ok
theorem rmagnitude_ok (n : Int) (h1 : -9223372036854775808 ≤ n) (h2 : n ≤ 9223372036854775807) : Ok Tryz.prog 112 [intC n] (natC n.natAbs) := by
  refine Ok.enter Tryz.func112 rfl _ Tryz.ntmps112 rfl ?_
  intro S w
  (refine Qy (Qx fun K hK => ?_); refine Qv rfl rfl rfl ?_; refine Qj (hK _ _ (Qz (Qy (Qy ?_)))); clear hK K; refine Qx (fun K hK => ?_); refine Qq rfl rfl rfl ?_; refine Qw ilss rfl rfl rfl rfl ?_; refine Qj (hK _ _ (Qz ?_)); clear hK K)
  refine Q0 rfl (fun h => ?_) (fun h => ?_)
  · (refine Qy (Qx fun K hK => ?_); refine Qq rfl rfl rfl ?_; refine Qw (iadd (by omega) (by omega)) rfl rfl rfl rfl ?_)
    refine Ops.ineg rfl rfl (by omega) (by omega) rfl ?_
    refine X6 rfl rfl (by with_reducible exact uI64) (by with_reducible exact uU64) (wrap_u (by omega) (by omega)) rfl ?_
    refine Qw (uadd (by omega) (by omega)) rfl rfl rfl rfl ?_
    rw [show -(n + 1) + 1 = (n.natAbs : Int) by omega]
    refine QX gorWord (rWord_ok n.natAbs (by omega)) rfl rfl rfl rfl ?_
    (refine Qv rfl rfl rfl ?_; refine Qj (hK _ _ (Qz (Q3 (QW ?_)))); clear hK K)
    refine QK [_] rfl (QQ rfl Qu) rfl rfl
  · (refine QU (Qz (Qy (Qx fun K hK => ?_))); refine Qq rfl rfl rfl ?_)
    refine X6 rfl rfl (by with_reducible exact uI64) (by with_reducible exact uU64) (wrap_u (by omega) (by omega)) rfl ?_
    rw [show n = (n.natAbs : Int) by omega]
    refine QX gorWord (rWord_ok n.natAbs (by omega)) rfl rfl rfl rfl ?_
    (refine Qv rfl rfl rfl ?_; refine Qj (hK _ _ (Qz (Q3 ?_))); clear hK K)
    refine QK [_] rfl (QQ rfl Qu) rfl rfl
theorem gormagnitude : InGo Tryz.prog 112 := InGo.of Tryz.func112 (by kernel_rfl) (by kernel_rfl)
set_option maxHeartbeats 2000000 in
theorem rreduced_ok (neg : Bool) (a b : Nat) (h0 : 0 < b) (la : (limbs a).length ≤ 10000) (lb : (limbs b).length ≤ 10000) : Ok Tryz.prog 93 [boolC neg, natC a, natC b] (fracC (redF neg a b)) := by
  have hg0 : 0 < Nat.gcd a b := Nat.gcd_pos_of_pos_right _ h0
  have hg1 : Nat.gcd a b ≤ b := Nat.gcd_le_right _ h0
  have lg : (limbs (Nat.gcd a b)).length ≤ 10000 := Nat.le_trans (limbs_len_mono hg1) lb
  have h1 := rGcd_ok a b la lb
  have h2 := rSplit_ok a _ hg0 la lg
  have h3 := rSplit_ok b _ hg0 lb lg
  have e0 : a ≠ 0 → redF neg a b = ⟨neg, a / Nat.gcd a b, b / Nat.gcd a b⟩ := fun ha => by
    unfold redF
    have : a / Nat.gcd a b ≠ 0 := by
      have := Nat.div_pos (Nat.gcd_le_left b (Nat.pos_of_ne_zero ha)) hg0
      omega
    simp [this]
  have e1 : a = 0 → redF neg a b = ⟨false, 0, 1⟩ := fun ha => by
    subst ha; unfold redF; simp [Nat.div_self h0]
  have e11 : natC 1 = .fr (sliceT 1 [[intC 1]]) := by show intsC (limbs 1) = _; rw [limbs_one (by decide) (by decide)]; rfl
  generalize Nat.gcd a b = g at *
  refine Ok.enter Tryz.func93 rfl _ Tryz.ntmps93 rfl ?_
  intro S w
  (refine Qy (Qx fun K hK => ?_); refine Qd 0 rfl rfl (by with_reducible first | exact zvFrac) rfl rfl rfl ?_; refine Qj (hK _ _ (Qz (Qy (Qy ?_)))); clear hK K; refine Qx (fun K hK => ?_); refine Qq rfl rfl rfl ?_; refine Q4 rfl rfl (by with_reducible first | exact sNat.und | exact sInts.und) (List.length_map ..) rfl ?_; refine Qw ieql rfl rfl rfl rfl ?_; refine Qj (hK _ _ (Qz ?_)); clear hK K)
  refine Q0 rfl (fun h => ?_) (fun h => ?_)
  · have ha : a = 0 := limbs_nil (List.eq_nil_of_length_eq_zero (by omega))
    have e2 := e1 ha
    (refine Qy (Qx fun K hK => ?_))
    refine Xx rfl rfl (by with_reducible exact sNat) rfl rfl rfl ?_
    rw [← e11]
    refine Xz rfl (by with_reducible exact bFrac) rfl (.one rfl rfl rfl rfl .nil) rfl ?_
    (refine Qa 3 rfl rfl rfl rfl rfl (by with_reducible exact szFrac) rfl rfl ?_; refine Qj (hK _ _ (Qz (Q3 (QW ?_)))); clear hK K)
    refine QK [_] rfl (Xb (w_agg (ds := [boolC false, intsC [], natC 1]) (by exact ⟨w_same, w_nil, w_same, trivial⟩)) (Qb (n := 3) rfl rfl (by with_reducible exact lFrac) rfl Qu)) (by rw [e2, ← natC_zero]; rfl) rfl
  · have ha : a ≠ 0 := fun ha => h (by rw [ha, limbs_zero]; rfl)
    have e2 := e0 ha
    (refine QU (Qz (Qy (Qx fun K hK => ?_))); refine Qq rfl rfl rfl ?_; refine Qq rfl rfl rfl ?_)
    refine QX gorGcd h1 rfl rfl rfl rfl ?_
    (refine Qv rfl rfl rfl ?_; refine Qj (hK _ _ (Qz (Qy ?_))); clear hK K; refine Qx (fun K hK => ?_); refine Qq rfl rfl rfl ?_; refine Qq rfl rfl rfl ?_)
    refine QX gorSplit h2 rfl rfl rfl rfl ?_
    (refine Qq rfl rfl rfl ?_; refine QY rfl rfl rfl rfl ?_; refine QY rfl rfl rfl rfl ?_; refine Qv rfl rfl rfl ?_; refine Qv rfl rfl rfl ?_; refine Qj (hK _ _ (Qz (Qy ?_))); clear hK K; refine Qx (fun K hK => ?_); refine Qq rfl rfl rfl ?_; refine Qq rfl rfl rfl ?_)
    refine QX gorSplit h3 rfl rfl rfl rfl ?_
    (refine Qq rfl rfl rfl ?_; refine QY rfl rfl rfl rfl ?_; refine QY rfl rfl rfl rfl ?_; refine Qv rfl rfl rfl ?_; refine Qv rfl rfl rfl ?_; refine Qj (hK _ _ (Qz (Qy ?_))); clear hK K; refine Qx (fun K hK => ?_); refine Qq rfl rfl rfl ?_; refine Qq rfl rfl rfl ?_; refine Qq rfl rfl rfl ?_)
    refine Xz rfl (by with_reducible exact bFrac) rfl (.one rfl rfl rfl rfl (.one rfl rfl rfl rfl (.one rfl rfl rfl rfl .nil))) rfl ?_
    (refine Qa 3 rfl rfl rfl rfl rfl (by with_reducible exact szFrac) rfl rfl ?_; refine Qj (hK _ _ (Qz (Q3 ?_))); clear hK K)
    refine QK [_] rfl (Qb (n := 3) rfl rfl (by with_reducible exact lFrac) rfl Qu) (by rw [e2]; rfl) rfl
theorem gorreduced : InGo Tryz.prog 93 := InGo.of Tryz.func93 (by kernel_rfl) (by kernel_rfl)
end Go.Proofs.YtdhmbgogmoaofaaGreat
namespace Go.Proofs.YtdhmbgogmoaofaaGreat
open Go.Own Go.Limbs
attribute [local irreducible] St Ops Go.Own.Fin Ok
theorem zBool : (Tryz.prog.info? 4).map (·.size) = some 1 := by kernel_rfl
set_option maxHeartbeats 2000000 in
theorem rFrom_ok (n d : Int) (h1 : -9223372036854775808 ≤ n) (h2 : n ≤ 9223372036854775807) (h3 : -9223372036854775808 ≤ d) (h4 : d ≤ 9223372036854775807) (h0 : d ≠ 0) : Ok Tryz.prog 57 [intC n, intC d] (.fr (tupT [ratC (Rat.divInt n d), intC 0])) := by
  have hl : (limbs n.natAbs).length ≤ 3 := limbs_length_le (k := 3) (by omega)
  have hl2 : (limbs d.natAbs).length ≤ 3 := limbs_length_le (k := 3) (by omega)
  rw [show ratC (Rat.divInt n d) = fracC (redF (decide (n < 0) != decide (d < 0)) n.natAbs d.natAbs) from by rw [from_redF n d h0]]
  refine Ok.enter Tryz.func57 rfl _ Tryz.ntmps57 rfl ?_
  intro S w
  (refine Qy (Qx fun K hK => ?_); refine Qd 0 rfl rfl (by with_reducible first | exact zvFrac) rfl rfl rfl ?_; refine Qv rfl rfl rfl ?_; refine Qj (hK _ _ (Qz (Qy (Qy ?_)))); clear hK K; refine Qx (fun K hK => ?_); refine Qq rfl rfl rfl ?_; refine Qw ieql rfl rfl rfl rfl ?_; refine Qj (hK _ _ (Qz ?_)); clear hK K)
  refine Q0 rfl (fun h => absurd h h0) (fun h => ?_)
  (refine QU (Qz (Qy (Qx fun K hK => ?_))); refine Qq rfl rfl rfl ?_; refine Qw ilss rfl rfl rfl rfl ?_; refine Qq rfl rfl rfl ?_; refine Qw ilss rfl rfl rfl rfl ?_)
  refine Ops.bne rfl rfl rfl (by with_reducible exact uBool) rfl ?_
  rw [dne]
  (refine Qq rfl rfl rfl ?_)
  refine QX gormagnitude (rmagnitude_ok n h1 h2) rfl rfl rfl rfl ?_
  (refine Qq rfl rfl rfl ?_)
  refine QX gormagnitude (rmagnitude_ok d h3 h4) rfl rfl rfl rfl ?_
  refine QX gorreduced (rreduced_ok _ n.natAbs d.natAbs (by omega) (by omega) (by omega)) rfl rfl rfl rfl ?_
  (refine Qa 3 rfl rfl rfl rfl rfl (by with_reducible exact szFrac) rfl rfl ?_; refine Qv rfl rfl rfl ?_; refine Qj (hK _ _ (Qz (Q3 ?_))); clear hK K)
  refine QK [_, _] rfl (Qb (n := 3) rfl rfl (by with_reducible exact lFrac) rfl (QQ rfl Qu)) rfl rfl
theorem gorFrom : InGo Tryz.prog 57 := InGo.of Tryz.func57 (by kernel_rfl) (by kernel_rfl)
def oppF (f : Fr) : Fr := ⟨!f.neg && decide (f.num ≠ 0), f.num, f.den⟩
theorem oppF_q (q : Rat) : oppF (ofQ q) = ofQ (-q) := by
  unfold oppF ofQ
  simp only [Rat.neg_num, Rat.neg_den, Int.natAbs_neg]
  congr 1
  by_cases h : q.num < 0
  · rw [decide_eq_true h, decide_eq_false (show ¬ (-q.num < 0) by omega)]; rfl
  · rw [decide_eq_false h, Bool.not_false, Bool.true_and, decide_eq_decide]; omega
set_option maxHeartbeats 2000000 in
theorem rOpposite_ok (f : Fr) : Ok Tryz.prog 137 [fracC f] (fracC (oppF f)) := by
  refine Ok.enter Tryz.func137 rfl _ Tryz.ntmps137 rfl ?_
  intro S w
  (refine Qy (Qx fun K hK => ?_); refine Qt 0 rfl rfl rfl rfl rfl rfl rfl ?_; refine Qd 1 rfl rfl (by with_reducible first | exact zvFrac) rfl rfl rfl ?_; refine Qj (hK _ _ (Qz (Qy ?_))); clear hK K; refine Qx (fun K hK => ?_); refine QV rfl rfl rfl (by with_reducible first | exact fF0 | exact fF1 | exact fF2 | exact fR0 | exact fR1) rfl ?_; refine QJ rfl rfl rfl rfl rfl (by with_reducible first | exact lInt | exact lNat | exact lBool | exact lInts) rfl ?_; refine Qr rfl rfl rfl ?_; refine Qq rfl rfl rfl ?_)
  refine XJ 6 rfl (fun h => ?_) (fun h => ?_)
  · (refine QV rfl rfl rfl (by with_reducible first | exact fF0 | exact fF1 | exact fF2 | exact fR0 | exact fR1) rfl ?_; refine QJ rfl rfl rfl rfl rfl (by with_reducible first | exact lInt | exact lNat | exact lBool | exact lInts) rfl ?_; refine Q4 rfl rfl (by with_reducible first | exact sNat.und | exact sInts.und) (List.length_map ..) rfl ?_; refine Qw igtr rfl rfl rfl rfl ?_; refine Q7 rfl rfl rfl rfl ?_; refine QV rfl rfl rfl (by with_reducible first | exact fF0 | exact fF1 | exact fF2 | exact fR0 | exact fR1) rfl ?_)
    refine Qn rfl rfl rfl rfl rfl (by with_reducible exact zBool) (Nat.zero_lt_succ _) ?_
    (refine Qj (hK _ _ (Qz (Qy ?_))); clear hK K; refine Qx (fun K hK => ?_); refine Qp (n := 3) rfl rfl rfl rfl rfl (by with_reducible exact lFrac) rfl ?_; refine Qa 3 rfl rfl rfl rfl rfl (by with_reducible exact szFrac) rfl rfl ?_; refine Qj (hK _ _ (Qz (Q3 ?_))); clear hK K)
    refine QK [_] rfl (Qb (n := 3) rfl rfl (by with_reducible exact lFrac) rfl Qu) (by unfold oppF; rw [h, ← limbs_len_posI]; rfl) rfl
  · (refine Qk rfl rfl rfl ?_; refine Qk rfl rfl rfl ?_; refine Qk rfl rfl rfl ?_; refine Qk rfl rfl rfl ?_; refine Q6 rfl rfl rfl rfl ?_; refine QV rfl rfl rfl (by with_reducible first | exact fF0 | exact fF1 | exact fF2 | exact fR0 | exact fR1) rfl ?_)
    refine Qn rfl rfl rfl rfl rfl (by with_reducible exact zBool) (Nat.zero_lt_succ _) ?_
    (refine Qj (hK _ _ (Qz (Qy ?_))); clear hK K; refine Qx (fun K hK => ?_); refine Qp (n := 3) rfl rfl rfl rfl rfl (by with_reducible exact lFrac) rfl ?_; refine Qa 3 rfl rfl rfl rfl rfl (by with_reducible exact szFrac) rfl rfl ?_; refine Qj (hK _ _ (Qz (Q3 ?_))); clear hK K)
    refine QK [_] rfl (Qb (n := 3) rfl rfl (by with_reducible exact lFrac) rfl Qu) (by unfold oppF; rw [h]; rfl) rfl
theorem gorOpposite : InGo Tryz.prog 137 := InGo.of Tryz.func137 (by kernel_rfl) (by kernel_rfl)
set_option maxHeartbeats 4000000 in
theorem rsum_ok (f h : Fr) (l1 : (limbs f.num).length ≤ 1000) (l2 : (limbs f.den).length ≤ 1000) (l3 : (limbs h.num).length ≤ 1000) (l4 : (limbs h.den).length ≤ 1000) (d1 : 0 < f.den) (d2 : 0 < h.den) :
    Ok Tryz.prog 95 [fracC f, fracC h] (fracC (redF (sumS f.neg (f.num * h.den) h.neg (h.num * f.den)) (sumN f.neg (f.num * h.den) h.neg (h.num * f.den)) (f.den * h.den))) := by
  have m1 := mul_len l1 l4
  have m2 := mul_len l3 l2
  have m3 := mul_len l2 l4
  have hp := Nat.mul_pos d1 d2
  have m4 := sumN_len (n1 := f.neg) (n2 := h.neg) m1 m2
  have hr := rreduced_ok (sumS f.neg (f.num * h.den) h.neg (h.num * f.den)) (sumN f.neg (f.num * h.den) h.neg (h.num * f.den)) (f.den * h.den) hp (by omega) (by omega)
  refine Ok.enter Tryz.func95 rfl _ Tryz.ntmps95 rfl ?_
  intro S w
  generalize redF (sumS f.neg (f.num * h.den) h.neg (h.num * f.den)) (sumN f.neg (f.num * h.den) h.neg (h.num * f.den)) (f.den * h.den) = rr at *
  (refine Qy (Qx fun K hK => ?_); refine Qt 0 rfl rfl rfl rfl rfl rfl rfl ?_; refine Qt 1 rfl rfl rfl rfl rfl rfl rfl ?_; refine Qd 2 rfl rfl (by with_reducible first | exact zvFrac) rfl rfl rfl ?_; refine Qj (hK _ _ (Qz (Qy ?_))); clear hK K)
  refine Xq (by with_reducible exact mixed) 18 (.p 0 (.p 2 (.p 5 (.p 7 (.p 10 (.p 12 (.f 1 (.f 3 (.f 6 (.f 8 (.f 11 (.f 13 (.m 4 (.m 9 (.m 14 (.p 15 (.p 16 (.p 17 .done)))))))))))))))))) (by kernel_rfl) (fun K hK => ?_)
  (refine QV rfl rfl rfl (by with_reducible first | exact fF0 | exact fF1 | exact fF2 | exact fR0 | exact fR1) rfl ?_; refine QV rfl rfl rfl (by with_reducible first | exact fF0 | exact fF1 | exact fF2 | exact fR0 | exact fR1) rfl ?_; refine QV rfl rfl rfl (by with_reducible first | exact fF0 | exact fF1 | exact fF2 | exact fR0 | exact fR1) rfl ?_; refine QV rfl rfl rfl (by with_reducible first | exact fF0 | exact fF1 | exact fF2 | exact fR0 | exact fR1) rfl ?_; refine QV rfl rfl rfl (by with_reducible first | exact fF0 | exact fF1 | exact fF2 | exact fR0 | exact fR1) rfl ?_; refine QV rfl rfl rfl (by with_reducible first | exact fF0 | exact fF1 | exact fF2 | exact fR0 | exact fR1) rfl ?_; refine QJ rfl rfl rfl rfl rfl (by with_reducible first | exact lInt | exact lNat | exact lBool | exact lInts) rfl ?_; refine QJ rfl rfl rfl rfl rfl (by with_reducible first | exact lInt | exact lNat | exact lBool | exact lInts) rfl ?_; refine QJ rfl rfl rfl rfl rfl (by with_reducible first | exact lInt | exact lNat | exact lBool | exact lInts) rfl ?_; refine QJ rfl rfl rfl rfl rfl (by with_reducible first | exact lInt | exact lNat | exact lBool | exact lInts) rfl ?_; refine QJ rfl rfl rfl rfl rfl (by with_reducible first | exact lInt | exact lNat | exact lBool | exact lInts) rfl ?_; refine QJ rfl rfl rfl rfl rfl (by with_reducible first | exact lInt | exact lNat | exact lBool | exact lInts) rfl ?_)
  refine QX gorTimes (rTimes_ok f.num h.den (by omega)) rfl rfl rfl rfl ?_
  skip
  refine QX gorTimes (rTimes_ok h.num f.den (by omega)) rfl rfl rfl rfl ?_
  skip
  refine QX gorTimes (rTimes_ok f.den h.den (by omega)) rfl rfl rfl rfl ?_
  (refine Qv rfl rfl rfl ?_; refine Qv rfl rfl rfl ?_; refine Qv rfl rfl rfl ?_; refine Qj (hK _ _ (Qz (Qy (Qy ?_)))); clear hK K; refine Qx (fun K hK => ?_); refine QV rfl rfl rfl (by with_reducible first | exact fF0 | exact fF1 | exact fF2 | exact fR0 | exact fR1) rfl ?_; refine QJ rfl rfl rfl rfl rfl (by with_reducible first | exact lInt | exact lNat | exact lBool | exact lInts) rfl ?_; refine QV rfl rfl rfl (by with_reducible first | exact fF0 | exact fF1 | exact fF2 | exact fR0 | exact fR1) rfl ?_; refine QJ rfl rfl rfl rfl rfl (by with_reducible first | exact lInt | exact lNat | exact lBool | exact lInts) rfl ?_)
  refine Ops.beq rfl rfl rfl (by with_reducible exact uBool) rfl ?_
  (refine Qj (hK _ _ (Qz ?_)); clear hK K)
  refine X0 rfl (fun g => ?_) (fun g => ?_)
  · have g' : f.neg = h.neg := by simpa using g
    have e1 : sumN f.neg (f.num * h.den) h.neg (h.num * f.den) = f.num * h.den + h.num * f.den := by unfold sumN; rw [if_pos g']
    have e2 : sumS f.neg (f.num * h.den) h.neg (h.num * f.den) = f.neg := by unfold sumS; rw [if_pos g']
    rw [e1, e2] at hr
    (refine Qy ?_)
    refine Xq (by with_reducible exact mixed) 7 (.p 0 (.p 2 (.p 3 (.p 5 (.f 1 (.m 4 (.m 6 (.a 7 .done)))))))) (by kernel_rfl) (fun K hK => ?_)
    (refine QV rfl rfl rfl (by with_reducible first | exact fF0 | exact fF1 | exact fF2 | exact fR0 | exact fR1) rfl ?_; refine Qq rfl rfl rfl ?_; refine Qq rfl rfl rfl ?_; refine Qq rfl rfl rfl ?_; refine QJ rfl rfl rfl rfl rfl (by with_reducible first | exact lInt | exact lNat | exact lBool | exact lInts) rfl ?_)
    refine QX gorPlus (rPlus_ok (f.num * h.den) (h.num * f.den) (by omega) (by omega)) rfl rfl rfl rfl ?_
    refine QX gorreduced hr rfl rfl rfl rfl ?_
    (refine Qa 3 rfl rfl rfl rfl rfl (by with_reducible exact szFrac) rfl rfl ?_; refine Qj (hK _ _ (Qz (Q3 (QW ?_)))); clear hK K)
    refine QK [_] rfl (Qb (n := 3) rfl rfl (by with_reducible exact lFrac) rfl Qu) rfl rfl
  · have g' : ¬ f.neg = h.neg := by simpa using g
    (refine QU (Qz (Qy (Qy (Qx fun K hK => ?_)))); refine Qq rfl rfl rfl ?_; refine Qq rfl rfl rfl ?_)
    refine QX gorCompare (rCompare_ok (f.num * h.den) (h.num * f.den) (by omega) (by omega)) rfl rfl rfl rfl ?_
    (refine Qw igeq rfl rfl rfl rfl ?_; refine Qj (hK _ _ (Qz ?_)); clear hK K)
    refine Q0 rfl (fun g2 => ?_) (fun g2 => ?_)
    · have hle : h.num * f.den ≤ f.num * h.den := by have := cmpI_neg (a := ((f.num * h.den : Nat) : Int)) (b := ((h.num * f.den : Nat) : Int)); omega
      have e1 : sumN f.neg (f.num * h.den) h.neg (h.num * f.den) = f.num * h.den - h.num * f.den := by unfold sumN; rw [if_neg g', if_neg (by omega)]
      have e2 : sumS f.neg (f.num * h.den) h.neg (h.num * f.den) = f.neg := by unfold sumS; rw [if_neg g', if_neg (by omega)]
      rw [e1, e2] at hr
      (refine Qy ?_)
      refine Xq (by with_reducible exact mixed) 7 (.p 0 (.p 2 (.p 3 (.p 5 (.f 1 (.m 4 (.m 6 (.a 7 .done)))))))) (by kernel_rfl) (fun K hK => ?_)
      (refine QV rfl rfl rfl (by with_reducible first | exact fF0 | exact fF1 | exact fF2 | exact fR0 | exact fR1) rfl ?_; refine Qq rfl rfl rfl ?_; refine Qq rfl rfl rfl ?_; refine Qq rfl rfl rfl ?_; refine QJ rfl rfl rfl rfl rfl (by with_reducible first | exact lInt | exact lNat | exact lBool | exact lInts) rfl ?_)
      refine QX gorLess (rLess_ok (f.num * h.den) (h.num * f.den) hle (by omega)) rfl rfl rfl rfl ?_
      refine QX gorreduced hr rfl rfl rfl rfl ?_
      (refine Qa 3 rfl rfl rfl rfl rfl (by with_reducible exact szFrac) rfl rfl ?_; refine Qj (hK _ _ (Qz (Q3 (QW ?_)))); clear hK K)
      refine QK [_] rfl (Qb (n := 3) rfl rfl (by with_reducible exact lFrac) rfl Qu) rfl rfl
    · have hlt : f.num * h.den < h.num * f.den := by have := cmpI_neg (a := ((f.num * h.den : Nat) : Int)) (b := ((h.num * f.den : Nat) : Int)); omega
      have e1 : sumN f.neg (f.num * h.den) h.neg (h.num * f.den) = h.num * f.den - f.num * h.den := by unfold sumN; rw [if_neg g', if_pos hlt]
      have e2 : sumS f.neg (f.num * h.den) h.neg (h.num * f.den) = h.neg := by unfold sumS; rw [if_neg g', if_pos hlt]
      rw [e1, e2] at hr
      (refine QU (Qz (Qy ?_)))
      refine Xq (by with_reducible exact mixed) 7 (.p 0 (.p 2 (.p 3 (.p 5 (.f 1 (.m 4 (.m 6 (.a 7 .done)))))))) (by kernel_rfl) (fun K hK => ?_)
      (refine QV rfl rfl rfl (by with_reducible first | exact fF0 | exact fF1 | exact fF2 | exact fR0 | exact fR1) rfl ?_; refine Qq rfl rfl rfl ?_; refine Qq rfl rfl rfl ?_; refine Qq rfl rfl rfl ?_; refine QJ rfl rfl rfl rfl rfl (by with_reducible first | exact lInt | exact lNat | exact lBool | exact lInts) rfl ?_)
      refine QX gorLess (rLess_ok (h.num * f.den) (f.num * h.den) (by omega) (by omega)) rfl rfl rfl rfl ?_
      refine QX gorreduced hr rfl rfl rfl rfl ?_
      (refine Qa 3 rfl rfl rfl rfl rfl (by with_reducible exact szFrac) rfl rfl ?_; refine Qj (hK _ _ (Qz (Q3 ?_))); clear hK K)
      refine QK [_] rfl (Qb (n := 3) rfl rfl (by with_reducible exact lFrac) rfl Qu) rfl rfl
theorem gorsum : InGo Tryz.prog 95 := InGo.of Tryz.func95 (by kernel_rfl) (by kernel_rfl)
end Go.Proofs.YtdhmbgogmoaofaaGreat
namespace Go.Proofs.YtdhmbgogmoaofaaGreat
open Go.Own Go.Limbs
attribute [local irreducible] St Ops Go.Own.Fin Ok OkM
theorem gorNValid : InGo Tryz.prog 111 := InGo.of Tryz.func111 (by kernel_rfl) (by kernel_rfl)
set_option maxHeartbeats 4000000 in
theorem rNValid_ok (xs : List Int) (hl : xs.length < 4611686018427387904) : Ok Tryz.prog 111 [intsC xs] (boolC (validL xs)) := by
  refine Ok.enter Tryz.func111 rfl _ Tryz.ntmps111 rfl ?_
  intro S w
  (refine Qy (Qx fun K hK => ?_); refine Qv rfl rfl rfl ?_; refine Qj (hK _ _ (Qz (Qy (Qy ?_)))); clear hK K; refine Qx (fun K hK => ?_); refine Qv rfl rfl rfl ?_; refine Qj (hK _ _ (Qz (Q2 ?_))); clear hK K)
  refine Ql (α := Nat) (fun i => i ≤ xs.length ∧ (xs.take i).all (fun x => decide (0 ≤ x) && decide (x < BB)) = true)
    (fun i => [(0, .ct (intsC xs)), (3, .ct (intC i))]) (fun _ => []) (fun i => xs.length - i) 0 ⟨Nat.zero_le _, rfl⟩ (by exact QZ rfl ⟨rfl, rfl, trivial⟩) ?_
  intro i ⟨hi, hv⟩
  dsimp only
  (refine Qy (Qy (Qx fun K hK => ?_)); refine Qq rfl rfl rfl ?_; refine Qq rfl rfl rfl ?_; refine Q4 rfl rfl (by with_reducible first | exact sNat.und | exact sInts.und) (List.length_map ..) rfl ?_; refine Qw ilss rfl rfl rfl rfl ?_; refine Qj (hK _ _ (Qz ?_)); clear hK K)
  refine Q0 rfl (fun h => ?_) (fun h => ?_)
  · have e2 : (i : Int).toNat = i := Int.toNat_natCast i
    have hlt : i < xs.length := by omega
    have hbad : (decide (0 ≤ xs.getD i 0) && decide (xs.getD i 0 < BB)) = false → validL xs = false := fun hp => by
      unfold validL; rw [all_false (p := fun x => decide (0 ≤ x) && decide (x < BB)) hlt hp]; rfl
    (refine QU (Qz (Qy (Q2 (Qy (Qx fun K hK => ?_))))); refine Qq rfl rfl rfl ?_; refine Qq rfl rfl rfl ?_; refine Qf rfl rfl rfl (by with_reducible first | exact sNat | exact sInts) (by omega) (ints_at (by omega) (by omega)) rfl ?_; refine Qm rfl rfl rfl (by with_reducible first | exact lInt | exact lNat | exact lBool | exact lInts) rfl ?_; refine Qw ilss rfl rfl rfl rfl ?_; refine Qq rfl rfl rfl ?_)
    rw [e2]
    skip
    refine Qg 15 rfl (fun h2 => ?_) (fun h2 => ?_)
    · (refine Qk rfl rfl rfl ?_; refine Qk rfl rfl rfl ?_; refine Qk rfl rfl rfl ?_; refine Qk rfl rfl rfl ?_; refine Qk rfl rfl rfl ?_; refine Q7 rfl rfl rfl rfl ?_; refine Qj (hK _ _ (Qz (Xk rfl (Qy ?_)))); clear hK K; refine Qx (fun K hK => ?_); refine Qv rfl rfl rfl ?_; refine Qj (hK _ _ (Qz (Q3 (Q9 (QW (QW (Q9 (QW ?_)))))))); clear hK K)
      refine QK [_] rfl (QQ rfl Qu) (by rw [hbad (bad2 (by unfold BB; omega))]; rfl) rfl
    · (refine Qq rfl rfl rfl ?_; refine Qq rfl rfl rfl ?_; refine Qf rfl rfl rfl (by with_reducible first | exact sNat | exact sInts) (by omega) (ints_at (by omega) (by omega)) rfl ?_; refine Qm rfl rfl rfl (by with_reducible first | exact lInt | exact lNat | exact lBool | exact lInts) rfl ?_; refine Qw igeq rfl rfl rfl rfl ?_; refine Q6 rfl rfl rfl rfl ?_; refine Qj (hK _ _ (Qz ?_)); clear hK K)
      rw [e2]
      skip
      refine Q0 rfl (fun h3 => ?_) (fun h3 => ?_)
      · (refine Qy (Qx fun K hK => ?_); refine Qv rfl rfl rfl ?_; refine Qj (hK _ _ (Qz (Q3 (Q9 (QW (QW (Q9 (QW ?_)))))))); clear hK K)
        refine QK [_] rfl (QQ rfl Qu) (by rw [hbad (bad2 (by unfold BB; omega))]; rfl) rfl
      · (refine QU (Qz (Qx fun K hK => ?_)); refine Qq rfl rfl rfl ?_; refine Qw (iadd (by omega) (by omega)) rfl rfl rfl rfl ?_; refine Qv rfl rfl rfl ?_; refine Qj (hK _ _ (Q5 ?_)); clear hK K)
        refine Q8 (i + 1) (by omega) ⟨by omega, ?_⟩ (by exact QZ rfl ⟨rfl, by simp only [Int.natCast_add]; rfl, trivial⟩)
        rw [all_take_succ hlt, hv]
        exact good2 (by omega) (by unfold BB; omega)
  · have hi' : i = xs.length := by omega
    rw [hi', List.take_length] at hv
    have e : validL xs = (decide (xs.length ≤ 256) && (decide (xs.length = 0) || decide (xs.getD (xs.length - 1) 0 ≠ 0))) := by unfold validL; rw [hv]; simp
    clear h
    (refine Qe (Qz (Qy (Qx fun K hK => ?_))); refine Qq rfl rfl rfl ?_; refine Q4 rfl rfl (by with_reducible first | exact sNat.und | exact sInts.und) (List.length_map ..) rfl ?_; refine Qw ileq rfl rfl rfl rfl ?_; refine Qq rfl rfl rfl ?_)
    refine Qg 25 rfl (fun h2 => ?_) (fun h2 => ?_)
    · (refine Qq rfl rfl rfl ?_; refine Q4 rfl rfl (by with_reducible first | exact sNat.und | exact sInts.und) (List.length_map ..) rfl ?_; refine Qw ieql rfl rfl rfl rfl ?_; refine Qq rfl rfl rfl ?_)
      refine Qg 29 rfl (fun h3 => ?_) (fun h3 => ?_)
      · (refine Qk rfl rfl rfl ?_; refine Qk rfl rfl rfl ?_; refine Qk rfl rfl rfl ?_; refine Qk rfl rfl rfl ?_; refine Qk rfl rfl rfl ?_; refine Qk rfl rfl rfl ?_; refine Qk rfl rfl rfl ?_; refine Q7 rfl rfl rfl rfl ?_; refine Q7 rfl rfl rfl rfl ?_; refine Qv rfl rfl rfl ?_; refine Qj (hK _ _ (Qz (Q3 ?_))); clear hK K)
        refine QK [_] rfl (QQ rfl Qu) (by rw [e, show decide (xs.length ≤ 256) = true by simp; omega, show decide (xs.length = 0) = true by rw [decide_eq_true_eq]; omega]; rfl) rfl
      · have e1 : ((xs.length : Int) - 1).toNat = xs.length - 1 := by omega
        (refine Qq rfl rfl rfl ?_; refine Qq rfl rfl rfl ?_; refine Q4 rfl rfl (by with_reducible first | exact sNat.und | exact sInts.und) (List.length_map ..) rfl ?_; refine Qw (isub (by omega) (by omega)) rfl rfl rfl rfl ?_; refine Qf rfl rfl rfl (by with_reducible first | exact sNat | exact sInts) (by omega) (ints_at (by omega) (by omega)) rfl ?_; refine Qm rfl rfl rfl (by with_reducible first | exact lInt | exact lNat | exact lBool | exact lInts) rfl ?_; refine Qw ineq rfl rfl rfl rfl ?_; refine Q6 rfl rfl rfl rfl ?_; refine Q7 rfl rfl rfl rfl ?_; refine Qv rfl rfl rfl ?_; refine Qj (hK _ _ (Qz (Q3 ?_))); clear hK K)
        rw [e1]
        skip
        refine QK [_] rfl (QQ rfl Qu) (by rw [e, show decide (xs.length ≤ 256) = true by simp; omega, show decide (xs.length = 0) = false by simp; intro h4; subst h4; simp at h3]; rfl) rfl
    · (refine Qk rfl rfl rfl ?_; refine Qk rfl rfl rfl ?_; refine Qk rfl rfl rfl ?_; refine Qk rfl rfl rfl ?_; refine Qk rfl rfl rfl ?_; refine Qk rfl rfl rfl ?_; refine Qk rfl rfl rfl ?_; refine Qk rfl rfl rfl ?_; refine Qk rfl rfl rfl ?_; refine Qk rfl rfl rfl ?_; refine Qk rfl rfl rfl ?_; refine Qk rfl rfl rfl ?_; refine Q6 rfl rfl rfl rfl ?_; refine Qv rfl rfl rfl ?_; refine Qj (hK _ _ (Qz (Q3 ?_))); clear hK K)
      refine QK [_] rfl (QQ rfl Qu) (by rw [e, show decide (xs.length ≤ 256) = false by simp; omega]; rfl) rfl
theorem gorFValid : InGo Tryz.prog 55 := InGo.of Tryz.func55 (by kernel_rfl) (by kernel_rfl)
set_option maxHeartbeats 4000000 in
theorem rFValid_list (neg : Bool) (xs ys : List Int) (hx : xs.length < 4611686018427387904) (hy : ys.length < 4611686018427387904) : Ok Tryz.prog 55 [.fr (aggT [boolC neg, intsC xs, intsC ys])] (boolC (fvalidL neg xs ys)) := by
  refine Ok.enter Tryz.func55 rfl _ Tryz.ntmps55 rfl ?_
  intro S w
  have e0 : fvalidL neg xs ys = ((validL xs && decide (xs.length ≤ 64)) && (validL ys && decide (ys.length ≤ 64)) && decide (0 < ys.length) && !(neg && decide (xs.length = 0))) := rfl
  have h1 := rNValid_ok xs hx
  have h2 := rNValid_ok ys hy
  generalize validL xs = b1 at e0 h1
  generalize validL ys = b2 at e0 h2
  generalize fvalidL neg xs ys = r at *
  (refine Qy (Qx fun K hK => ?_); refine Qt 0 rfl rfl rfl rfl rfl rfl rfl ?_; refine Qv rfl rfl rfl ?_; refine Qj (hK _ _ (Qz (Qy ?_))); clear hK K; refine Qx (fun K hK => ?_); refine QV rfl rfl rfl (by with_reducible first | exact fF0 | exact fF1 | exact fF2 | exact fR0 | exact fR1) rfl ?_; refine QJ rfl rfl rfl rfl rfl (by with_reducible first | exact lInt | exact lNat | exact lBool | exact lInts) rfl ?_)
  refine QX gorNValid h1 rfl rfl rfl rfl ?_
  (refine Qq rfl rfl rfl ?_)
  refine XJ 6 rfl (fun h => ?_) (fun h => ?_)
  · (refine QV rfl rfl rfl (by with_reducible first | exact fF0 | exact fF1 | exact fF2 | exact fR0 | exact fR1) rfl ?_; refine QJ rfl rfl rfl rfl rfl (by with_reducible first | exact lInt | exact lNat | exact lBool | exact lInts) rfl ?_)
    refine QX gorNValid h2 rfl rfl rfl rfl ?_
    (refine Q7 rfl rfl rfl rfl ?_; refine Qq rfl rfl rfl ?_)
    refine XJ 11 rfl (fun h3 => ?_) (fun h3 => ?_)
    · (refine QV rfl rfl rfl (by with_reducible first | exact fF0 | exact fF1 | exact fF2 | exact fR0 | exact fR1) rfl ?_; refine QJ rfl rfl rfl rfl rfl (by with_reducible first | exact lInt | exact lNat | exact lBool | exact lInts) rfl ?_; refine Q4 rfl rfl (by with_reducible first | exact sNat.und | exact sInts.und) (List.length_map ..) rfl ?_; refine Qw ileq rfl rfl rfl rfl ?_; refine Q7 rfl rfl rfl rfl ?_; refine Qq rfl rfl rfl ?_)
      refine Qg 17 rfl (fun h4 => ?_) (fun h4 => ?_)
      · have h4' : decide (xs.length ≤ 64) = true := decide_eq_true (by omega)
        (refine QV rfl rfl rfl (by with_reducible first | exact fF0 | exact fF1 | exact fF2 | exact fR0 | exact fR1) rfl ?_; refine QJ rfl rfl rfl rfl rfl (by with_reducible first | exact lInt | exact lNat | exact lBool | exact lInts) rfl ?_; refine Q4 rfl rfl (by with_reducible first | exact sNat.und | exact sInts.und) (List.length_map ..) rfl ?_; refine Qw ileq rfl rfl rfl rfl ?_; refine Q7 rfl rfl rfl rfl ?_; refine Qq rfl rfl rfl ?_)
        refine Qg 23 rfl (fun h5 => ?_) (fun h5 => ?_)
        · have h5' : decide (ys.length ≤ 64) = true := decide_eq_true (by omega)
          (refine QV rfl rfl rfl (by with_reducible first | exact fF0 | exact fF1 | exact fF2 | exact fR0 | exact fR1) rfl ?_; refine QJ rfl rfl rfl rfl rfl (by with_reducible first | exact lInt | exact lNat | exact lBool | exact lInts) rfl ?_; refine Q4 rfl rfl (by with_reducible first | exact sNat.und | exact sInts.und) (List.length_map ..) rfl ?_; refine Qw igtr rfl rfl rfl rfl ?_; refine Q7 rfl rfl rfl rfl ?_; refine Qq rfl rfl rfl ?_)
          refine Qg 29 rfl (fun h6 => ?_) (fun h6 => ?_)
          · have h6' : decide (0 < ys.length) = true := decide_eq_true (by omega)
            (refine QV rfl rfl rfl (by with_reducible first | exact fF0 | exact fF1 | exact fF2 | exact fR0 | exact fR1) rfl ?_; refine QJ rfl rfl rfl rfl rfl (by with_reducible first | exact lInt | exact lNat | exact lBool | exact lInts) rfl ?_; refine Q4 rfl rfl (by with_reducible first | exact sNat.und | exact sInts.und) (List.length_map ..) rfl ?_; refine Qw igtr rfl rfl rfl rfl ?_; refine Qq rfl rfl rfl ?_)
            refine Qg 34 rfl (fun h7 => ?_) (fun h7 => ?_)
            · have h7' : decide (xs.length = 0) = false := decide_eq_false (by omega)
              (refine Qk rfl rfl rfl ?_; refine Qk rfl rfl rfl ?_; refine Qk rfl rfl rfl ?_; refine Q7 rfl rfl rfl rfl ?_; refine Q7 rfl rfl rfl rfl ?_; refine Qv rfl rfl rfl ?_; refine Qj (hK _ _ (Qz (Q3 ?_))); clear hK K)
              refine QK [_] rfl (QQ rfl Qu) (by rw [e0, h, h3, h4', h5', h6', h7', Bool.and_false]; rfl) rfl
            · have h7' : decide (xs.length = 0) = true := decide_eq_true (by omega)
              (refine QV rfl rfl rfl (by with_reducible first | exact fF0 | exact fF1 | exact fF2 | exact fR0 | exact fR1) rfl ?_; refine QJ rfl rfl rfl rfl rfl (by with_reducible first | exact lInt | exact lNat | exact lBool | exact lInts) rfl ?_; refine Qr rfl rfl rfl ?_; refine Q6 rfl rfl rfl rfl ?_; refine Q7 rfl rfl rfl rfl ?_; refine Qv rfl rfl rfl ?_; refine Qj (hK _ _ (Qz (Q3 ?_))); clear hK K)
              refine QK [_] rfl (QQ rfl Qu) (by rw [e0, h, h3, h4', h5', h6', h7', Bool.and_true]; simp; rfl) rfl
          · have h6' : decide (0 < ys.length) = false := decide_eq_false (by omega)
            (refine Qk rfl rfl rfl ?_; refine Qk rfl rfl rfl ?_; refine Qk rfl rfl rfl ?_; refine Qk rfl rfl rfl ?_; refine Qk rfl rfl rfl ?_; refine Qk rfl rfl rfl ?_; refine Qk rfl rfl rfl ?_; refine Qk rfl rfl rfl ?_; refine Qk rfl rfl rfl ?_; refine Q6 rfl rfl rfl rfl ?_; refine Qv rfl rfl rfl ?_; refine Qj (hK _ _ (Qz (Q3 ?_))); clear hK K)
            refine QK [_] rfl (QQ rfl Qu) (by rw [e0, h6']; simp; rfl) rfl
        · have h5' : decide (ys.length ≤ 64) = false := decide_eq_false (by omega)
          (refine Qk rfl rfl rfl ?_; refine Qk rfl rfl rfl ?_; refine Qk rfl rfl rfl ?_; refine Qk rfl rfl rfl ?_; refine Q6 rfl rfl rfl rfl ?_; refine Qq rfl rfl rfl ?_; refine Qk rfl rfl rfl ?_; refine Qk rfl rfl rfl ?_; refine Qk rfl rfl rfl ?_; refine Qk rfl rfl rfl ?_; refine Qk rfl rfl rfl ?_; refine Qk rfl rfl rfl ?_; refine Qk rfl rfl rfl ?_; refine Qk rfl rfl rfl ?_; refine Qk rfl rfl rfl ?_; refine Q6 rfl rfl rfl rfl ?_; refine Qv rfl rfl rfl ?_; refine Qj (hK _ _ (Qz (Q3 ?_))); clear hK K)
          refine QK [_] rfl (QQ rfl Qu) (by rw [e0, h5']; simp; rfl) rfl
      · have h4' : decide (xs.length ≤ 64) = false := decide_eq_false (by omega)
        (refine Qk rfl rfl rfl ?_; refine Qk rfl rfl rfl ?_; refine Qk rfl rfl rfl ?_; refine Qk rfl rfl rfl ?_; refine Q6 rfl rfl rfl rfl ?_; refine Qq rfl rfl rfl ?_; refine Qk rfl rfl rfl ?_; refine Qk rfl rfl rfl ?_; refine Qk rfl rfl rfl ?_; refine Qk rfl rfl rfl ?_; refine Q6 rfl rfl rfl rfl ?_; refine Qq rfl rfl rfl ?_; refine Qk rfl rfl rfl ?_; refine Qk rfl rfl rfl ?_; refine Qk rfl rfl rfl ?_; refine Qk rfl rfl rfl ?_; refine Qk rfl rfl rfl ?_; refine Qk rfl rfl rfl ?_; refine Qk rfl rfl rfl ?_; refine Qk rfl rfl rfl ?_; refine Qk rfl rfl rfl ?_; refine Q6 rfl rfl rfl rfl ?_; refine Qv rfl rfl rfl ?_; refine Qj (hK _ _ (Qz (Q3 ?_))); clear hK K)
        refine QK [_] rfl (QQ rfl Qu) (by rw [e0, h4']; simp; rfl) rfl
    · (refine Qk rfl rfl rfl ?_; refine Qk rfl rfl rfl ?_; refine Qk rfl rfl rfl ?_; refine Qk rfl rfl rfl ?_; refine Q6 rfl rfl rfl rfl ?_; refine Qq rfl rfl rfl ?_; refine Qk rfl rfl rfl ?_; refine Qk rfl rfl rfl ?_; refine Qk rfl rfl rfl ?_; refine Qk rfl rfl rfl ?_; refine Q6 rfl rfl rfl rfl ?_; refine Qq rfl rfl rfl ?_; refine Qk rfl rfl rfl ?_; refine Qk rfl rfl rfl ?_; refine Qk rfl rfl rfl ?_; refine Qk rfl rfl rfl ?_; refine Q6 rfl rfl rfl rfl ?_; refine Qq rfl rfl rfl ?_; refine Qk rfl rfl rfl ?_; refine Qk rfl rfl rfl ?_; refine Qk rfl rfl rfl ?_; refine Qk rfl rfl rfl ?_; refine Qk rfl rfl rfl ?_; refine Qk rfl rfl rfl ?_; refine Qk rfl rfl rfl ?_; refine Qk rfl rfl rfl ?_; refine Qk rfl rfl rfl ?_; refine Q6 rfl rfl rfl rfl ?_; refine Qv rfl rfl rfl ?_; refine Qj (hK _ _ (Qz (Q3 ?_))); clear hK K)
      refine QK [_] rfl (QQ rfl Qu) (by rw [e0, h3]; simp; rfl) rfl
  · (refine Qk rfl rfl rfl ?_; refine Qk rfl rfl rfl ?_; refine Qk rfl rfl rfl ?_; refine Q6 rfl rfl rfl rfl ?_; refine Qq rfl rfl rfl ?_; refine Qk rfl rfl rfl ?_; refine Qk rfl rfl rfl ?_; refine Qk rfl rfl rfl ?_; refine Qk rfl rfl rfl ?_; refine Q6 rfl rfl rfl rfl ?_; refine Qq rfl rfl rfl ?_; refine Qk rfl rfl rfl ?_; refine Qk rfl rfl rfl ?_; refine Qk rfl rfl rfl ?_; refine Qk rfl rfl rfl ?_; refine Q6 rfl rfl rfl rfl ?_; refine Qq rfl rfl rfl ?_; refine Qk rfl rfl rfl ?_; refine Qk rfl rfl rfl ?_; refine Qk rfl rfl rfl ?_; refine Qk rfl rfl rfl ?_; refine Q6 rfl rfl rfl rfl ?_; refine Qq rfl rfl rfl ?_; refine Qk rfl rfl rfl ?_; refine Qk rfl rfl rfl ?_; refine Qk rfl rfl rfl ?_; refine Qk rfl rfl rfl ?_; refine Qk rfl rfl rfl ?_; refine Qk rfl rfl rfl ?_; refine Qk rfl rfl rfl ?_; refine Qk rfl rfl rfl ?_; refine Qk rfl rfl rfl ?_; refine Q6 rfl rfl rfl rfl ?_; refine Qv rfl rfl rfl ?_; refine Qj (hK _ _ (Qz (Q3 ?_))); clear hK K)
    refine QK [_] rfl (QQ rfl Qu) (by rw [e0, h]; rfl) rfl
theorem rFValid_V (f : Fr) (h : VF f) : Ok Tryz.prog 55 [fracC f] (boolC true) := by
  have := rFValid_list f.neg (limbs f.num) (limbs f.den) (by have := h.num; omega) (by have := h.den; omega)
  rw [h.list] at this; exact this
theorem golimited : InGo Tryz.prog 92 := InGo.of Tryz.func92 (by kernel_rfl) (by kernel_rfl)
theorem limited_ok (f : Fr) (h : VF f) : Ok Tryz.prog 92 [fracC f] (.fr (tupT [fracC f, intC 0])) := by
  refine Ok.enter Tryz.func92 rfl _ Tryz.ntmps92 rfl ?_
  intro S w
  (refine Qy (Qx fun K hK => ?_); refine Qt 0 rfl rfl rfl rfl rfl rfl rfl ?_; refine Qd 1 rfl rfl (by with_reducible first | exact zvFrac) rfl rfl rfl ?_; refine Qv rfl rfl rfl ?_; refine Qj (hK _ _ (Qz (Qy (Qy ?_)))); clear hK K; refine Qx (fun K hK => ?_); refine Qp (n := 3) rfl rfl rfl rfl rfl (by with_reducible exact lFrac) rfl ?_)
  refine QX gorFValid (rFValid_V f h) rfl rfl rfl rfl ?_
  (refine Qr rfl rfl rfl ?_; refine Qj (hK _ _ (Qz (Qs rfl (QU (Qz (Qy ?_)))))); clear hK K; refine Qx (fun K hK => ?_); refine Qp (n := 3) rfl rfl rfl rfl rfl (by with_reducible exact lFrac) rfl ?_; refine Qa 3 rfl rfl rfl rfl rfl (by with_reducible exact szFrac) rfl rfl ?_; refine Qv rfl rfl rfl ?_; refine Qj (hK _ _ (Qz (Q3 ?_))); clear hK K)
  refine QK [_, _] rfl (Qb (n := 3) rfl rfl (by with_reducible exact lFrac) rfl (QQ rfl Qu)) rfl rfl
theorem gorFMul : InGo Tryz.prog 36 := InGo.of Tryz.func36 (by kernel_rfl) (by kernel_rfl)
set_option maxHeartbeats 4000000 in
theorem rFMul_gen (f h : Fr) (hs1 : (limbs f.num).length + (limbs h.num).length ≤ 64) (hs2 : (limbs f.den).length + (limbs h.den).length ≤ 64) (d1 : 0 < f.den) (d2 : 0 < h.den) :
    Ok Tryz.prog 36 [fracC f, fracC h] (.fr (tupT [ratC (qv f * qv h), intC 0])) := by
  have hp := Nat.mul_pos d1 d2
  have l3 := limbs_mul_len (a := f.num) (b := h.num)
  have l8 := limbs_mul_len (a := f.den) (b := h.den)
  have l4 := redF_den (f.neg != h.neg) (f.num * h.num) _ hp
  have l5 := redF_neg (f.neg != h.neg) (f.num * h.num) (f.den * h.den)
  have l6 : (limbs (redF (f.neg != h.neg) (f.num * h.num) (f.den * h.den)).num).length ≤ 64 := div_len (Nat.le_trans l3 hs1)
  have l7 := limbs_len_mono l4.2
  have hr := rreduced_ok (f.neg != h.neg) (f.num * h.num) _ hp (by omega) (by omega)
  show Ok Tryz.prog 36 [fracC f, fracC h] (.fr (tupT [fracC (ofQ (qv f * qv h)), intC 0]))
  rw [← redF_mul f h d1 d2]
  have hV : VF (redF (f.neg != h.neg) (f.num * h.num) (f.den * h.den)) := ⟨l6, by omega, l4.1, l5⟩
  refine Ok.enter Tryz.func36 rfl _ Tryz.ntmps36 rfl ?_
  intro S w
  generalize redF (f.neg != h.neg) (f.num * h.num) (f.den * h.den) = rr at *
  (refine Qy (Qx fun K hK => ?_); refine Qt 0 rfl rfl rfl rfl rfl rfl rfl ?_; refine Qt 1 rfl rfl rfl rfl rfl rfl rfl ?_; refine Qd 2 rfl rfl (by with_reducible first | exact zvFrac) rfl rfl rfl ?_; refine Qv rfl rfl rfl ?_; refine Qj (hK _ _ (Qz (Qy ?_))); clear hK K)
  refine Xq (by with_reducible exact mixed) 19 (.p 0 (.p 2 (.p 5 (.p 7 (.p 10 (.p 12 (.f 1 (.f 3 (.p 4 (.f 6 (.f 8 (.f 11 (.f 13 (.m 9 (.m 14 (.m 15 (.m 16 (.p 17 (.p 18 (.a 19 (.p 20 .done))))))))))))))))))))) (by kernel_rfl) (fun K hK => ?_)
  (refine QV rfl rfl rfl (by with_reducible first | exact fF0 | exact fF1 | exact fF2 | exact fR0 | exact fR1) rfl ?_; refine QV rfl rfl rfl (by with_reducible first | exact fF0 | exact fF1 | exact fF2 | exact fR0 | exact fR1) rfl ?_; refine QV rfl rfl rfl (by with_reducible first | exact fF0 | exact fF1 | exact fF2 | exact fR0 | exact fR1) rfl ?_; refine QV rfl rfl rfl (by with_reducible first | exact fF0 | exact fF1 | exact fF2 | exact fR0 | exact fR1) rfl ?_; refine QV rfl rfl rfl (by with_reducible first | exact fF0 | exact fF1 | exact fF2 | exact fR0 | exact fR1) rfl ?_; refine QV rfl rfl rfl (by with_reducible first | exact fF0 | exact fF1 | exact fF2 | exact fR0 | exact fR1) rfl ?_; refine QJ rfl rfl rfl rfl rfl (by with_reducible first | exact lInt | exact lNat | exact lBool | exact lInts) rfl ?_; refine QJ rfl rfl rfl rfl rfl (by with_reducible first | exact lInt | exact lNat | exact lBool | exact lInts) rfl ?_)
  refine Ops.bne rfl rfl rfl (by with_reducible exact uBool) rfl ?_
  rw [dne]
  (refine QJ rfl rfl rfl rfl rfl (by with_reducible first | exact lInt | exact lNat | exact lBool | exact lInts) rfl ?_; refine QJ rfl rfl rfl rfl rfl (by with_reducible first | exact lInt | exact lNat | exact lBool | exact lInts) rfl ?_; refine QJ rfl rfl rfl rfl rfl (by with_reducible first | exact lInt | exact lNat | exact lBool | exact lInts) rfl ?_; refine QJ rfl rfl rfl rfl rfl (by with_reducible first | exact lInt | exact lNat | exact lBool | exact lInts) rfl ?_)
  refine QX gorTimes (rTimes_ok f.num h.num (by omega)) rfl rfl rfl rfl ?_
  skip
  refine QX gorTimes (rTimes_ok f.den h.den (by omega)) rfl rfl rfl rfl ?_
  refine QX gorreduced hr rfl rfl rfl rfl ?_
  refine QX golimited (limited_ok rr hV) rfl rfl rfl rfl ?_
  (refine QY rfl rfl rfl rfl ?_; refine QY rfl rfl rfl rfl ?_; refine Qa 3 rfl rfl rfl rfl rfl (by with_reducible exact szFrac) rfl rfl ?_; refine Qv rfl rfl rfl ?_; refine Qj (hK _ _ (Qz (Q3 ?_))); clear hK K)
  refine QK [_, _] rfl (Qb (n := 3) rfl rfl (by with_reducible exact lFrac) rfl (QQ rfl Qu)) rfl rfl
theorem gorFAdd : InGo Tryz.prog 38 := InGo.of Tryz.func38 (by kernel_rfl) (by kernel_rfl)
set_option maxHeartbeats 4000000 in
theorem rFAdd_fine (f h : Fr) (h1 : (limbs f.num).length + (limbs h.den).length ≤ 63) (h3 : (limbs h.num).length + (limbs f.den).length ≤ 63) (hs2 : (limbs f.den).length + (limbs h.den).length ≤ 64) (d1 : 0 < f.den) (d2 : 0 < h.den) :
    Ok Tryz.prog 38 [fracC f, fracC h] (.fr (tupT [ratC (qv f + qv h), intC 0])) := by
  have hp := Nat.mul_pos d1 d2
  have l1 : (limbs (f.num * h.den)).length ≤ 63 := Nat.le_trans limbs_mul_len h1
  have l2 : (limbs (h.num * f.den)).length ≤ 63 := Nat.le_trans limbs_mul_len h3
  have l3 := sumN_len (n1 := f.neg) (n2 := h.neg) l1 l2
  have l8 := limbs_mul_len (a := f.den) (b := h.den)
  have l4 := redF_den (sumS f.neg (f.num * h.den) h.neg (h.num * f.den)) (sumN f.neg (f.num * h.den) h.neg (h.num * f.den)) _ hp
  have l5 := redF_neg (sumS f.neg (f.num * h.den) h.neg (h.num * f.den)) (sumN f.neg (f.num * h.den) h.neg (h.num * f.den)) (f.den * h.den)
  have l6 : (limbs (redF (sumS f.neg (f.num * h.den) h.neg (h.num * f.den)) (sumN f.neg (f.num * h.den) h.neg (h.num * f.den)) (f.den * h.den)).num).length ≤ 64 := div_len l3
  have l7 := limbs_len_mono l4.2
  have hs := rsum_ok f h (by omega) (by omega) (by omega) (by omega) d1 d2
  show Ok Tryz.prog 38 [fracC f, fracC h] (.fr (tupT [fracC (ofQ (qv f + qv h)), intC 0]))
  rw [← redF_add f h d1 d2]
  have hV : VF (redF (sumS f.neg (f.num * h.den) h.neg (h.num * f.den)) (sumN f.neg (f.num * h.den) h.neg (h.num * f.den)) (f.den * h.den)) := ⟨l6, by omega, l4.1, l5⟩
  refine Ok.enter Tryz.func38 rfl _ Tryz.ntmps38 rfl ?_
  intro S w
  generalize redF (sumS f.neg (f.num * h.den) h.neg (h.num * f.den)) (sumN f.neg (f.num * h.den) h.neg (h.num * f.den)) (f.den * h.den) = rr at *
  (refine Qy (Qx fun K hK => ?_); refine Qt 0 rfl rfl rfl rfl rfl rfl rfl ?_; refine Qt 1 rfl rfl rfl rfl rfl rfl rfl ?_; refine Qd 2 rfl rfl (by with_reducible first | exact zvFrac) rfl rfl rfl ?_; refine Qv rfl rfl rfl ?_; refine Qj (hK _ _ (Qz (Qy ?_))); clear hK K; refine Qx (fun K hK => ?_); refine Qp (n := 3) rfl rfl rfl rfl rfl (by with_reducible exact lFrac) rfl ?_; refine Qp (n := 3) rfl rfl rfl rfl rfl (by with_reducible exact lFrac) rfl ?_)
  refine QX gorsum hs rfl rfl rfl rfl ?_
  refine QX golimited (limited_ok rr hV) rfl rfl rfl rfl ?_
  (refine QY rfl rfl rfl rfl ?_; refine QY rfl rfl rfl rfl ?_; refine Qa 3 rfl rfl rfl rfl rfl (by with_reducible exact szFrac) rfl rfl ?_; refine Qv rfl rfl rfl ?_; refine Qj (hK _ _ (Qz (Q3 ?_))); clear hK K)
  refine QK [_, _] rfl (Qb (n := 3) rfl rfl (by with_reducible exact lFrac) rfl (QQ rfl Qu)) rfl rfl
theorem goWhole : InGo Tryz.prog 61 := InGo.of Tryz.func61 (by kernel_rfl) (by kernel_rfl)
theorem Whole_ok (n : Int) (h1 : -9223372036854775808 ≤ n) (h2 : n ≤ 9223372036854775807) : Ok Tryz.prog 61 [intC n] (ratC (n : Rat)) := by
  have hF := rFrom_ok n 1 h1 h2 (by decide) (by decide) (by decide)
  rw [divInt_one] at hF
  refine Ok.enter Tryz.func61 rfl _ Tryz.ntmps61 rfl ?_
  intro S w
  (refine Qy (Qx fun K hK => ?_); refine Qd 0 rfl rfl (by with_reducible first | exact zvFrac) rfl rfl rfl ?_; refine Qj (hK _ _ (Qz (Qy ?_))); clear hK K; refine Qx (fun K hK => ?_); refine Qq rfl rfl rfl ?_)
  refine QX gorFrom hF rfl rfl rfl rfl ?_
  (refine Qq rfl rfl rfl ?_; refine QY rfl rfl rfl rfl ?_; refine QY rfl rfl rfl rfl ?_; refine Qd 1 rfl rfl (by with_reducible first | exact zvFrac) rfl rfl rfl ?_; refine Qa 3 rfl rfl rfl rfl rfl (by with_reducible exact szFrac) rfl rfl ?_; refine Qv rfl rfl rfl ?_; refine Qj (hK _ _ (Qz (Qy ?_))); clear hK K; refine Qx (fun K hK => ?_); refine Qp (n := 3) rfl rfl rfl rfl rfl (by with_reducible exact lFrac) rfl ?_; refine Qa 3 rfl rfl rfl rfl rfl (by with_reducible exact szFrac) rfl rfl ?_; refine Qj (hK _ _ (Qz (Q3 ?_))); clear hK K)
  refine QK [_] rfl (Qb (n := 3) rfl rfl (by with_reducible exact lFrac) rfl Qu) rfl rfl
end Go.Proofs.YtdhmbgogmoaofaaGreat
namespace Go.Proofs.YtdhmbgogmoaofaaGreat
open Go.Own Go.Limbs
attribute [local irreducible] St Ops Go.Own.Fin Ok OkM
theorem gorValue : InGo Tryz.prog 18 := InGo.of Tryz.func18 (by kernel_rfl) (by kernel_rfl)
set_option maxHeartbeats 8000000 in
theorem rValue_gen (c : List Int) (xs : List Fr) (H : VFit c xs) : Ok Tryz.prog 18 [intsC c, fracsC xs] (.fr (tupT [ratC (vsum c xs), intC 0])) := by
  have hcl := H.cl
  have hxl := H.xl
  refine Ok.enter Tryz.func18 rfl _ Tryz.ntmps18 rfl ?_
  intro S w
  (refine Qy (Qx fun K hK => ?_); refine Qd 0 rfl rfl (by with_reducible first | exact zvFrac) rfl rfl rfl ?_; refine Qv rfl rfl rfl ?_; refine Qj (hK _ _ (Qz (Qy ?_))); clear hK K; refine Qx (fun K hK => ?_))
  refine QX goWhole (Whole_ok 0 (by decide) (by decide)) rfl rfl rfl rfl ?_
  (refine Qd 1 rfl rfl (by with_reducible first | exact zvFrac) rfl rfl rfl ?_; refine Qa 3 rfl rfl rfl rfl rfl (by with_reducible exact szFrac) rfl rfl ?_; refine Qj (hK _ _ (Qz (Qy (Qy ?_)))); clear hK K; refine Qx (fun K hK => ?_); refine Qv rfl rfl rfl ?_; refine Qj (hK _ _ (Qz (Q2 ?_))); clear hK K)
  refine Ql (α := Nat) (fun i => i ≤ min c.length xs.length)
    (fun i => [(0, .ct (intsC c)), (1, .ct (fracsC xs)), (4, .own 0), (6, .own 1), (7, .ct (intC i))])
    (fun i => [(1, .box 38 (frCs (ofQ (psum c xs i)))), (0, .box 38 [.ex (.bool false), .ex (.slice none 0 0), .ex (.slice none 0 0)])]) (fun i => min c.length xs.length - i) 0 (Nat.zero_le _) (by exact QZ rfl ⟨rfl, rfl, rfl, rfl, rfl, trivial⟩) ?_
  intro i hi
  (try dsimp only at hi ⊢)
  have es : psum c xs (i + 1) = psum c xs i + (c.getD i 0 : Rat) * qv (xs.getD i fr0) := rfl
  (refine Qy (Qy (Qx fun K hK => ?_)); refine Qq rfl rfl rfl ?_; refine Qq rfl rfl rfl ?_; refine Q4 rfl rfl (by with_reducible first | exact sNat.und | exact sInts.und) (List.length_map ..) rfl ?_; refine Qw ilss rfl rfl rfl rfl ?_; refine Qq rfl rfl rfl ?_)
  refine Qg 16 rfl (fun h => ?_) (fun h => ?_)
  · (refine Qq rfl rfl rfl ?_; refine Qq rfl rfl rfl ?_; refine Q4 rfl rfl (by with_reducible first | exact sFracs.und | exact sRows.und) (List.length_map ..) rfl ?_; refine Qw ilss rfl rfl rfl rfl ?_; refine Q7 rfl rfl rfl rfl ?_; refine Qj (hK _ _ (Qz ?_)); clear hK K)
    refine Q0 rfl (fun h2 => ?_) (fun h2 => ?_)
    · have e2 : (i : Int).toNat = i := Int.toNat_natCast i
      have hi2 : i < min c.length xs.length := by omega
      have hcb := H.cb i
      have hW := Whole_ok (c.getD i 0) (by omega) (by omega)
      have hM := rFMul_gen (ofQ (c.getD i 0 : Rat)) (xs.getD i fr0) (H.mn i hi2) (by rw [ofQ_int_den]; have := H.md i hi2; have e : (limbs 1).length ≤ 1 := limbs_length_le (by decide); omega) (ofQ_den _) (H.den i hi2)
      rw [qv_ofQ] at hM
      have hA := rFAdd_fine (ofQ (psum c xs i)) (ofQ ((c.getD i 0 : Rat) * qv (xs.getD i fr0))) (H.a1 i hi2) (H.a2 i hi2) (H.a3 i hi2) (ofQ_den _) (ofQ_den _)
      rw [qv_ofQ, qv_ofQ, ← es] at hA
      (refine QU (Qz (Qy (Q2 (Qy ?_)))))
      refine Xq (by with_reducible exact mixed) 14 (.p 0 (.p 1 (.p 2 (.p 5 (.p 6 (.p 7 (.f 3 (.f 8 (.fork 4 (.fork 9 (.p 10 (.p 11 (.p 12 (.m 13 (.a 14 (.p 15 .done)))))) 13 (.m 9 (.p 10 (.p 11 (.p 12 (.a 14 (.p 15 .done))))))) 13 (.m 4 (.m 9 (.p 10 (.p 11 (.p 12 (.a 14 (.p 15 .done)))))))))))))))) (by kernel_rfl) (fun K hK => ?_)
      refine (fun (cont : Go.Own.Fin _ [(0, .ct (intsC c)), (1, .ct (fracsC xs)), (4, .own 0), (6, .own 1), (7, .ct (intC i)), (8, .own 2), (9, .ct (intC 0))] [(2, .box 38 (frCs (ofQ ((c.getD i 0 : Rat) * qv (xs.getD i fr0))))), (1, .box 38 (frCs (ofQ (psum c xs i)))), (0, .box 38 [.ex (.bool false), .ex (.slice none 0 0), .ex (.slice none 0 0)])] K) => ?_) (hK _ _ ?_)
      rotate_left
      · clear hK K
        (refine Qz (Qy (Qy (Qx fun K hK => ?_))); refine Qq rfl rfl rfl ?_; refine Qw ineq rfl rfl rfl rfl ?_; refine Qj (hK _ _ (Qz (Qs rfl (QU (Qz (Qy ?_)))))); clear hK K; refine Qx (fun K hK => ?_); refine Qp (n := 3) rfl rfl rfl rfl rfl (by with_reducible exact lFrac) rfl ?_; refine Qp (n := 3) rfl rfl rfl rfl rfl (by with_reducible exact lFrac) rfl ?_)
        refine QX gorFAdd hA rfl rfl rfl rfl ?_
        (refine Qq rfl rfl rfl ?_; refine QY rfl rfl rfl rfl ?_; refine QY rfl rfl rfl rfl ?_; refine Qd 3 rfl rfl (by with_reducible first | exact zvFrac) rfl rfl rfl ?_; refine Qa 3 rfl rfl rfl rfl rfl (by with_reducible exact szFrac) rfl rfl ?_; refine Qv rfl rfl rfl ?_; refine Qj (hK _ _ (Qz (Qy (Qy ?_)))); clear hK K; refine Qx (fun K hK => ?_); refine Qq rfl rfl rfl ?_; refine Qw ineq rfl rfl rfl rfl ?_; refine Qj (hK _ _ (Qz (Qs rfl (QU (Qz ?_))))); clear hK K; refine Qx (fun K hK => ?_); refine Qp (n := 3) rfl rfl rfl rfl rfl (by with_reducible exact lFrac) rfl ?_; refine Qa 3 rfl rfl rfl rfl rfl (by with_reducible exact szFrac) rfl rfl ?_; refine Qj (hK _ _ (Qz ?_)); clear hK K; refine Qx (fun K hK => ?_); refine Qq rfl rfl rfl ?_; refine Qw (iadd (by omega) (by omega)) rfl rfl rfl rfl ?_; refine Qv rfl rfl rfl ?_; refine Qj (hK _ _ (Q5 ?_)); clear hK K)
        refine XY 3 (XY 2 ?_)
        refine Q8 (i + 1) (by omega) (by omega) (by exact QZ rfl ⟨rfl, rfl, rfl, rfl, by simp only [Int.natCast_add]; rfl, trivial⟩)
      clear hK
      (refine Qq rfl rfl rfl ?_; refine Qq rfl rfl rfl ?_; refine Qf rfl rfl rfl (by with_reducible first | exact sNat | exact sInts) (by omega) (ints_at (by omega) (by omega)) rfl ?_; refine Qq rfl rfl rfl ?_; refine Qq rfl rfl rfl ?_; refine Qf rfl rfl rfl (by with_reducible exact sFracs) (by omega) (fracs_at (by omega) (by omega)) rfl ?_; refine Qm rfl rfl rfl (by with_reducible first | exact lInt | exact lNat | exact lBool | exact lInts) rfl ?_; refine X8 (n := 3) rfl rfl rfl (by with_reducible exact lFrac) rfl rfl ?_)
      rw [e2]
      skip
      refine Ops.fork ?_ ?_
      · refine QX goWhole hW rfl rfl rfl rfl ?_
        refine Ops.fork ?_ ?_
        · refine QX gorFMul hM rfl rfl rfl rfl ?_
          (refine Qq rfl rfl rfl ?_; refine QY rfl rfl rfl rfl ?_; refine QY rfl rfl rfl rfl ?_; refine Qd 2 rfl rfl (by with_reducible first | exact zvFrac) rfl rfl rfl ?_; refine Qa 3 rfl rfl rfl rfl rfl (by with_reducible exact szFrac) rfl rfl ?_; refine Qv rfl rfl rfl ?_)
          exact Qj (X2 cont ⟨rfl, rfl, rfl, rfl, rfl, rfl, rfl, trivial⟩)
        · refine Qd 2 rfl rfl (by with_reducible exact zvFrac) rfl rfl rfl ?_
          refine QX gorFMul hM rfl rfl rfl rfl ?_
          (refine Qq rfl rfl rfl ?_; refine QY rfl rfl rfl rfl ?_; refine QY rfl rfl rfl rfl ?_; refine Qa 3 rfl rfl rfl rfl rfl (by with_reducible exact szFrac) rfl rfl ?_; refine Qv rfl rfl rfl ?_)
          exact Qj (X2 cont ⟨rfl, rfl, rfl, rfl, rfl, rfl, rfl, trivial⟩)
      · refine Qd 2 rfl rfl (by with_reducible exact zvFrac) rfl rfl rfl ?_
        refine QX goWhole hW rfl rfl rfl rfl ?_
        refine QX gorFMul hM rfl rfl rfl rfl ?_
        (refine Qq rfl rfl rfl ?_; refine QY rfl rfl rfl rfl ?_; refine QY rfl rfl rfl rfl ?_; refine Qa 3 rfl rfl rfl rfl rfl (by with_reducible exact szFrac) rfl rfl ?_; refine Qv rfl rfl rfl ?_)
        exact Qj (X2 cont ⟨rfl, rfl, rfl, rfl, rfl, rfl, rfl, trivial⟩)
    · have hi' : i = min c.length xs.length := by omega
      (refine Qe (Qz (Qy (Qx fun K hK => ?_))); refine Qp (n := 3) rfl rfl rfl rfl rfl (by with_reducible exact lFrac) rfl ?_; refine Qa 3 rfl rfl rfl rfl rfl (by with_reducible exact szFrac) rfl rfl ?_; refine Qv rfl rfl rfl ?_; refine Qj (hK _ _ (Qz (Q3 ?_))); clear hK K)
      refine QK [_, _] rfl (Qb (n := 3) rfl rfl (by with_reducible exact lFrac) rfl (QQ rfl Qu)) (by unfold vsum; rw [← hi']; rfl) rfl
  · have hi' : i = min c.length xs.length := by omega
    (refine Qk rfl rfl rfl ?_; refine Qk rfl rfl rfl ?_; refine Qk rfl rfl rfl ?_; refine Qk rfl rfl rfl ?_; refine Q6 rfl rfl rfl rfl ?_; refine Qj (hK _ _ (Qz (Qs rfl (Qe (Qz (Qy ?_)))))); clear hK K; refine Qx (fun K hK => ?_); refine Qp (n := 3) rfl rfl rfl rfl rfl (by with_reducible exact lFrac) rfl ?_; refine Qa 3 rfl rfl rfl rfl rfl (by with_reducible exact szFrac) rfl rfl ?_; refine Qv rfl rfl rfl ?_; refine Qj (hK _ _ (Qz (Q3 ?_))); clear hK K)
    refine QK [_, _] rfl (Qb (n := 3) rfl rfl (by with_reducible exact lFrac) rfl (QQ rfl Qu)) (by unfold vsum; rw [← hi']; rfl) rfl
theorem gorValidGoal : InGo Tryz.prog 75 := InGo.of Tryz.func75 (by kernel_rfl) (by kernel_rfl)
set_option maxHeartbeats 4000000 in
theorem rValidGoal_ok (n : Int) (xs : List Int) (hl : xs.length < 4611686018427387904) : Ok Tryz.prog 75 [intC n, intsC xs] (boolC (okCoeffs n xs)) := by
  refine Ok.enter Tryz.func75 rfl _ Tryz.ntmps75 rfl ?_
  intro S w
  (refine Qy (Qx fun K hK => ?_); refine Qv rfl rfl rfl ?_; refine Qj (hK _ _ (Qz (Qy (Qy ?_)))); clear hK K; refine Qx (fun K hK => ?_); refine Qq rfl rfl rfl ?_; refine Q4 rfl rfl (by with_reducible first | exact sNat.und | exact sInts.und) (List.length_map ..) rfl ?_; refine Qq rfl rfl rfl ?_; refine Qw igtr rfl rfl rfl rfl ?_; refine Qj (hK _ _ (Qz ?_)); clear hK K)
  refine Q0 rfl (fun h => ?_) (fun h => ?_)
  · (refine Qy (Qx fun K hK => ?_); refine Qv rfl rfl rfl ?_; refine Qj (hK _ _ (Qz (Q3 (QW ?_)))); clear hK K)
    refine QK [_] rfl (QQ rfl Qu) (by unfold okCoeffs; rw [decide_eq_false (by omega)]; rfl) rfl
  have e0 : okCoeffs n xs = !xs.any badC := by unfold okCoeffs; rw [decide_eq_true (by omega)]; rfl
  (refine QU (Qz (Qy (Qy (Qx fun K hK => ?_)))); refine Qv rfl rfl rfl ?_; refine Qj (hK _ _ (Qz (Q2 ?_))); clear hK K)
  refine Ql (α := Nat) (fun i => i ≤ xs.length ∧ ∀ j, j < i → badC (xs.getD j 0) = false)
    (fun i => [(0, .ct (intC n)), (1, .ct (intsC xs)), (5, .ct (intC i))]) (fun _ => []) (fun i => xs.length - i) 0 ⟨Nat.zero_le _, fun j h => absurd h (Nat.not_lt_zero j)⟩ (by exact QZ rfl ⟨rfl, rfl, rfl, trivial⟩) ?_
  intro i ⟨hi, hv⟩
  (try dsimp only at hi hv ⊢)
  (refine Qy (Qy (Qx fun K hK => ?_)); refine Qq rfl rfl rfl ?_; refine Qq rfl rfl rfl ?_; refine Q4 rfl rfl (by with_reducible first | exact sNat.und | exact sInts.und) (List.length_map ..) rfl ?_; refine Qw ilss rfl rfl rfl rfl ?_; refine Qj (hK _ _ (Qz ?_)); clear hK K)
  refine Q0 rfl (fun h2 => ?_) (fun h2 => ?_)
  · have e2 : (i : Int).toNat = i := Int.toNat_natCast i
    have hlt : i < xs.length := by omega
    have bad : badC (xs.getD i 0) = true → okCoeffs n xs = false := fun hb => by
      rw [e0, List.any_eq_true.mpr ⟨_, getD_mem hlt, hb⟩]; rfl
    have bd : badC (xs.getD i 0) = (decide (xs.getD i 0 < -1048576) || decide (1048576 < xs.getD i 0)) := rfl
    (refine QU (Qz (Qy (Q2 (Qy (Qx fun K hK => ?_))))); refine Qq rfl rfl rfl ?_; refine Qq rfl rfl rfl ?_; refine Qf rfl rfl rfl (by with_reducible first | exact sNat | exact sInts) (by omega) (ints_at (by omega) (by omega)) rfl ?_; refine Qm rfl rfl rfl (by with_reducible first | exact lInt | exact lNat | exact lBool | exact lInts) rfl ?_; refine Qw ilss rfl rfl rfl rfl ?_; refine Qq rfl rfl rfl ?_)
    rw [e2]
    skip
    refine Qg 21 rfl (fun h3 => ?_) (fun h3 => ?_)
    · (refine Qk rfl rfl rfl ?_; refine Qk rfl rfl rfl ?_; refine Qk rfl rfl rfl ?_; refine Qk rfl rfl rfl ?_; refine Qk rfl rfl rfl ?_; refine Q7 rfl rfl rfl rfl ?_; refine Qj (hK _ _ (Qz (Xk rfl (Qy ?_)))); clear hK K; refine Qx (fun K hK => ?_); refine Qv rfl rfl rfl ?_; refine Qj (hK _ _ (Qz (Q3 (Q9 (QW (QW (Q9 (QW ?_)))))))); clear hK K)
      refine QK [_] rfl (QQ rfl Qu) (by rw [bad (by rw [bd, decide_eq_true h3]; rfl)]; rfl) rfl
    · (refine Qq rfl rfl rfl ?_; refine Qq rfl rfl rfl ?_; refine Qf rfl rfl rfl (by with_reducible first | exact sNat | exact sInts) (by omega) (ints_at (by omega) (by omega)) rfl ?_; refine Qm rfl rfl rfl (by with_reducible first | exact lInt | exact lNat | exact lBool | exact lInts) rfl ?_; refine Qw igtr rfl rfl rfl rfl ?_; refine Q6 rfl rfl rfl rfl ?_; refine Qj (hK _ _ (Qz ?_)); clear hK K)
      rw [e2]
      skip
      refine Q0 rfl (fun h4 => ?_) (fun h4 => ?_)
      · (refine Qy (Qx fun K hK => ?_); refine Qv rfl rfl rfl ?_; refine Qj (hK _ _ (Qz (Q3 (Q9 (QW (QW (Q9 (QW ?_)))))))); clear hK K)
        refine QK [_] rfl (QQ rfl Qu) (by rw [bad (by rw [bd, decide_eq_true h4, Bool.or_true])]; rfl) rfl
      · (refine QU (Qz (Qx fun K hK => ?_)); refine Qq rfl rfl rfl ?_; refine Qw (iadd (by omega) (by omega)) rfl rfl rfl rfl ?_; refine Qv rfl rfl rfl ?_; refine Qj (hK _ _ (Q5 ?_)); clear hK K)
        refine Q8 (i + 1) (by omega) ⟨by omega, ?_⟩ (by exact QZ rfl ⟨rfl, rfl, by simp only [Int.natCast_add]; rfl, trivial⟩)
        intro j hj
        rcases Nat.lt_or_ge j i with h5 | h5
        · exact hv j h5
        · rw [show j = i by omega, bd, decide_eq_false h3, decide_eq_false h4]; rfl
  · have hi' : i = xs.length := by omega
    (refine Qe (Qz (Qy (Qx fun K hK => ?_))); refine Qv rfl rfl rfl ?_; refine Qj (hK _ _ (Qz (Q3 ?_))); clear hK K)
    refine QK [_] rfl (QQ rfl Qu) (by
      rw [e0, show xs.any badC = false from List.any_eq_false.mpr fun x hx => by
        obtain ⟨j, hj, rfl⟩ := List.getElem_of_mem hx
        have := hv j (by omega)
        rw [List.getD_eq_getElem?_getD, List.getElem?_eq_getElem hj] at this
        simpa using this]; rfl) rfl
theorem gorLValid : InGo Tryz.prog 30 := InGo.of Tryz.func30 (by kernel_rfl) (by kernel_rfl)
set_option maxHeartbeats 8000000 in
theorem rLValid_ok (n : Int) (rs : List Rw) (hl : rs.length < 4611686018427387904) (hr : ∀ r ∈ rs, r.cs.length < 4611686018427387904) : Ok Tryz.prog 30 [intC n, rowsC rs] (boolC (validR n rs)) := by
  have e0 : validR n rs = (decide (0 ≤ n) && decide (n ≤ 16) && decide (rs.length ≤ 64) && !rs.any (badR n)) := rfl
  refine Ok.enter Tryz.func30 rfl _ Tryz.ntmps30 rfl ?_
  intro S w
  (refine Qy (Qx fun K hK => ?_); refine Qv rfl rfl rfl ?_; refine Qj (hK _ _ (Qz (Qy (Qy ?_)))); clear hK K; refine Qx (fun K hK => ?_); refine Qq rfl rfl rfl ?_; refine Qw ilss rfl rfl rfl rfl ?_; refine Qq rfl rfl rfl ?_)
  refine Qg 8 rfl (fun h => ?_) (fun h => ?_)
  · (refine Qk rfl rfl rfl ?_; refine Qk rfl rfl rfl ?_; refine Q7 rfl rfl rfl rfl ?_; refine Qq rfl rfl rfl ?_; refine Qk rfl rfl rfl ?_; refine Qk rfl rfl rfl ?_; refine Qk rfl rfl rfl ?_; refine Q7 rfl rfl rfl rfl ?_; refine Qj (hK _ _ (Qz (Xk rfl (Qy ?_)))); clear hK K; refine Qx (fun K hK => ?_); refine Qv rfl rfl rfl ?_; refine Qj (hK _ _ (Qz (Q3 (QW ?_)))); clear hK K)
    refine QK [_] rfl (QQ rfl Qu) (by rw [e0, decide_eq_false (by omega)]; rfl) rfl
  (refine Qq rfl rfl rfl ?_; refine Qw igtr rfl rfl rfl rfl ?_; refine Q6 rfl rfl rfl rfl ?_; refine Qq rfl rfl rfl ?_)
  refine Qg 12 rfl (fun h2 => ?_) (fun h2 => ?_)
  · (refine Qk rfl rfl rfl ?_; refine Qk rfl rfl rfl ?_; refine Qk rfl rfl rfl ?_; refine Q7 rfl rfl rfl rfl ?_; refine Qj (hK _ _ (Qz (Xk rfl (Qy ?_)))); clear hK K; refine Qx (fun K hK => ?_); refine Qv rfl rfl rfl ?_; refine Qj (hK _ _ (Qz (Q3 (QW ?_)))); clear hK K)
    refine QK [_] rfl (QQ rfl Qu) (by rw [e0, decide_eq_true (show 0 ≤ n by omega), decide_eq_false (show ¬ n ≤ 16 by omega)]; rfl) rfl
  (refine Qq rfl rfl rfl ?_; refine Q4 rfl rfl (by with_reducible first | exact sFracs.und | exact sRows.und) (List.length_map ..) rfl ?_; refine Qw igtr rfl rfl rfl rfl ?_; refine Q6 rfl rfl rfl rfl ?_; refine Qj (hK _ _ (Qz ?_)); clear hK K)
  refine Q0 rfl (fun h3 => ?_) (fun h3 => ?_)
  · (refine Qy (Qx fun K hK => ?_); refine Qv rfl rfl rfl ?_; refine Qj (hK _ _ (Qz (Q3 (QW ?_)))); clear hK K)
    refine QK [_] rfl (QQ rfl Qu) (by rw [e0, decide_eq_true (show 0 ≤ n by omega), decide_eq_true (show n ≤ 16 by omega), decide_eq_false (show ¬ rs.length ≤ 64 by omega)]; rfl) rfl
  have e1 : validR n rs = !rs.any (badR n) := by rw [e0, decide_eq_true (show 0 ≤ n by omega), decide_eq_true (show n ≤ 16 by omega), decide_eq_true (show rs.length ≤ 64 by omega)]; rfl
  (refine QU (Qz (Qy (Qy (Qx fun K hK => ?_)))); refine Qv rfl rfl rfl ?_; refine Qj (hK _ _ (Qz (Q2 ?_))); clear hK K)
  refine Ql (α := Nat) (fun i => i ≤ rs.length ∧ ∀ j, j < i → badR n (rs.getD j rw0) = false)
    (fun i => [(0, .ct (intC n)), (1, .ct (rowsC rs)), (5, .ct (intC i))]) (fun _ => []) (fun i => rs.length - i) 0 ⟨Nat.zero_le _, fun j h => absurd h (Nat.not_lt_zero j)⟩ (by exact QZ rfl ⟨rfl, rfl, rfl, trivial⟩) ?_
  intro i ⟨hi, hv⟩
  (try dsimp only at hi hv ⊢)
  (refine Qy (Qy (Qx fun K hK => ?_)); refine Qq rfl rfl rfl ?_; refine Qq rfl rfl rfl ?_; refine Q4 rfl rfl (by with_reducible first | exact sFracs.und | exact sRows.und) (List.length_map ..) rfl ?_; refine Qw ilss rfl rfl rfl rfl ?_; refine Qj (hK _ _ (Qz ?_)); clear hK K)
  refine Q0 rfl (fun h4 => ?_) (fun h4 => ?_)
  · have e2 : (i : Int).toNat = i := Int.toNat_natCast i
    have hlt : i < rs.length := by omega
    have hG := rValidGoal_ok n (rs.getD i rw0).cs (hr _ (getD_mem hlt))
    have bad : badR n (rs.getD i rw0) = true → validR n rs = false := fun hb => by
      rw [e1, List.any_eq_true.mpr ⟨_, getD_mem hlt, hb⟩]; rfl
    have bd : badR n (rs.getD i rw0) = (!okCoeffs n (rs.getD i rw0).cs || decide ((rs.getD i rw0).b < -4503599627370496) || decide (4503599627370496 < (rs.getD i rw0).b)) := rfl
    (refine QU (Qz (Qy (Q2 (Qy (Qx fun K hK => ?_))))); refine Qq rfl rfl rfl ?_; refine Qq rfl rfl rfl ?_; refine Qq rfl rfl rfl ?_; refine Qf rfl rfl rfl (by with_reducible exact sRows) (by omega) (rows_at (by omega) (by omega)) rfl ?_; refine Xc rfl rfl (by with_reducible first | exact fF0 | exact fF1 | exact fF2 | exact fR0 | exact fR1) rfl ?_; refine Qm rfl rfl rfl (by with_reducible first | exact lInt | exact lNat | exact lBool | exact lInts) rfl ?_)
    rw [e2]
    skip
    cases hg : okCoeffs n (rs.getD i rw0).cs with
    | false =>
      rw [hg] at hG bd
      refine QX gorValidGoal hG rfl rfl rfl rfl ?_
      (refine Qr rfl rfl rfl ?_; refine Qq rfl rfl rfl ?_; refine Qk rfl rfl rfl ?_; refine Qk rfl rfl rfl ?_; refine Qk rfl rfl rfl ?_; refine Qk rfl rfl rfl ?_; refine Qk rfl rfl rfl ?_; refine Qk rfl rfl rfl ?_; refine Q7 rfl rfl rfl rfl ?_; refine Qq rfl rfl rfl ?_; refine Qk rfl rfl rfl ?_; refine Qk rfl rfl rfl ?_; refine Qk rfl rfl rfl ?_; refine Qk rfl rfl rfl ?_; refine Qk rfl rfl rfl ?_; refine Qk rfl rfl rfl ?_; refine Q7 rfl rfl rfl rfl ?_; refine Qj (hK _ _ (Qz (Xk rfl (Qy ?_)))); clear hK K; refine Qx (fun K hK => ?_); refine Qv rfl rfl rfl ?_; refine Qj (hK _ _ (Qz (Q3 (Q9 (QW (QW (Q9 (QW ?_)))))))); clear hK K)
      refine QK [_] rfl (QQ rfl Qu) (by rw [bad (by rw [bd]; rfl)]; rfl) rfl
    | true =>
      rw [hg] at hG bd
      refine QX gorValidGoal hG rfl rfl rfl rfl ?_
      (refine Qr rfl rfl rfl ?_; refine Qq rfl rfl rfl ?_; refine Qq rfl rfl rfl ?_; refine Qq rfl rfl rfl ?_; refine Qf rfl rfl rfl (by with_reducible exact sRows) (by omega) (rows_at (by omega) (by omega)) rfl ?_; refine Xc rfl rfl (by with_reducible first | exact fF0 | exact fF1 | exact fF2 | exact fR0 | exact fR1) rfl ?_; refine Qm rfl rfl rfl (by with_reducible first | exact lInt | exact lNat | exact lBool | exact lInts) rfl ?_; refine Qw ilss rfl rfl rfl rfl ?_; refine Q6 rfl rfl rfl rfl ?_; refine Qq rfl rfl rfl ?_)
      rw [e2]
      skip
      refine Qg 39 rfl (fun h5 => ?_) (fun h5 => ?_)
      · (refine Qk rfl rfl rfl ?_; refine Qk rfl rfl rfl ?_; refine Qk rfl rfl rfl ?_; refine Qk rfl rfl rfl ?_; refine Qk rfl rfl rfl ?_; refine Qk rfl rfl rfl ?_; refine Q7 rfl rfl rfl rfl ?_; refine Qj (hK _ _ (Qz (Xk rfl (Qy ?_)))); clear hK K; refine Qx (fun K hK => ?_); refine Qv rfl rfl rfl ?_; refine Qj (hK _ _ (Qz (Q3 (Q9 (QW (QW (Q9 (QW ?_)))))))); clear hK K)
        refine QK [_] rfl (QQ rfl Qu) (by rw [bad (by rw [bd, decide_eq_true h5]; rfl)]; rfl) rfl
      · (refine Qq rfl rfl rfl ?_; refine Qq rfl rfl rfl ?_; refine Qf rfl rfl rfl (by with_reducible exact sRows) (by omega) (rows_at (by omega) (by omega)) rfl ?_; refine Xc rfl rfl (by with_reducible first | exact fF0 | exact fF1 | exact fF2 | exact fR0 | exact fR1) rfl ?_; refine Qm rfl rfl rfl (by with_reducible first | exact lInt | exact lNat | exact lBool | exact lInts) rfl ?_; refine Qw igtr rfl rfl rfl rfl ?_; refine Q6 rfl rfl rfl rfl ?_; refine Qj (hK _ _ (Qz ?_)); clear hK K)
        rw [e2]
        skip
        refine Q0 rfl (fun h6 => ?_) (fun h6 => ?_)
        · (refine Qy (Qx fun K hK => ?_); refine Qv rfl rfl rfl ?_; refine Qj (hK _ _ (Qz (Q3 (Q9 (QW (QW (Q9 (QW ?_)))))))); clear hK K)
          refine QK [_] rfl (QQ rfl Qu) (by rw [bad (by rw [bd, decide_eq_true h6, Bool.or_true])]; rfl) rfl
        · (refine QU (Qz (Qx fun K hK => ?_)); refine Qq rfl rfl rfl ?_; refine Qw (iadd (by omega) (by omega)) rfl rfl rfl rfl ?_; refine Qv rfl rfl rfl ?_; refine Qj (hK _ _ (Q5 ?_)); clear hK K)
          refine Q8 (i + 1) (by omega) ⟨by omega, ?_⟩ (by exact QZ rfl ⟨rfl, rfl, by simp only [Int.natCast_add]; rfl, trivial⟩)
          intro j hj
          rcases Nat.lt_or_ge j i with h7 | h7
          · exact hv j h7
          · rw [show j = i by omega, bd, decide_eq_false h5, decide_eq_false h6]; rfl
  · have hi' : i = rs.length := by omega
    (refine Qe (Qz (Qy (Qx fun K hK => ?_))); refine Qv rfl rfl rfl ?_; refine Qj (hK _ _ (Qz (Q3 ?_))); clear hK K)
    refine QK [_] rfl (QQ rfl Qu) (by
      rw [e1, show rs.any (badR n) = false from List.any_eq_false.mpr fun x hx => by
        obtain ⟨j, hj, rfl⟩ := List.getElem_of_mem hx
        have := hv j (by omega)
        rw [List.getD_eq_getElem?_getD, List.getElem?_eq_getElem hj] at this
        simpa using this]; rfl) rfl
end Go.Proofs.YtdhmbgogmoaofaaGreat
namespace Go.Proofs.YtdhmbgogmoaofaaGreat
open Go.Own Go.Limbs
attribute [local irreducible] St Ops Go.Own.Fin Ok OkM
theorem redF_z (S : Bool) (N D : Nat) (hD : 0 < D) : (redF S N D).neg = decide (sg S N < 0) ∧ ((redF S N D).num = 0 ↔ sg S N = 0) := by
  have hz : N / Nat.gcd N D = 0 ↔ N = 0 := by
    have hg : 0 < Nat.gcd N D := Nat.gcd_pos_of_pos_right _ hD
    constructor
    · intro h
      have h1 := Nat.div_mul_cancel (Nat.gcd_dvd_left N D)
      rw [h, Nat.zero_mul] at h1; exact h1.symm
    · intro h; rw [h]; exact Nat.zero_div _
  have e1 : sg S N = 0 ↔ N = 0 := by unfold sg; cases S <;> simp
  refine ⟨?_, ?_⟩
  · show (S && decide (N / Nat.gcd N D ≠ 0)) = _
    by_cases h : N = 0
    · rw [decide_eq_false (fun h2 => h2 (hz.2 h)), Bool.and_false, decide_eq_false (by have := e1.2 h; omega)]
    · have h2 : N / Nat.gcd N D ≠ 0 := fun h2 => h (hz.1 h2)
      rw [decide_eq_true h2, Bool.and_true]
      unfold sg
      cases S with
      | true => rw [if_pos rfl, decide_eq_true (by omega)]
      | false => rw [if_neg (by decide), decide_eq_false (by omega)]
  · show N / Nat.gcd N D = 0 ↔ _
    rw [hz, e1]
theorem gorFOrderQ : InGo Tryz.prog 78 := InGo.of Tryz.func78 (by kernel_rfl) (by kernel_rfl)
set_option maxHeartbeats 8000000 in
theorem rFOrder_q (p q : Rat) (l1 : (limbs (ofQ p).num).length ≤ 1000) (l2 : (limbs (ofQ p).den).length ≤ 1000) (l3 : (limbs (ofQ q).num).length ≤ 1000) (l4 : (limbs (ofQ q).den).length ≤ 1000) : Ok Tryz.prog 78 [ratC p, ratC q] (intC (cmpQ p q)) := by
  have h1 := rOpposite_ok (ofQ q)
  have h2 := rsum_ok (ofQ p) (oppF (ofQ q)) l1 l2 l3 l4 (ofQ_den p) (ofQ_den q)
  have hz : sg (sumS (ofQ p).neg ((ofQ p).num * (oppF (ofQ q)).den) (oppF (ofQ q)).neg ((oppF (ofQ q)).num * (ofQ p).den)) (sumN (ofQ p).neg ((ofQ p).num * (oppF (ofQ q)).den) (oppF (ofQ q)).neg ((oppF (ofQ q)).num * (ofQ p).den)) = p.num * q.den - q.num * p.den := by
    rw [sum_sg, sg_mul, sg_mul, ofQ_sg]
    have e : sg (oppF (ofQ q)).neg (oppF (ofQ q)).num = -q.num := by
      rw [oppF_q, ofQ_sg]; exact Rat.neg_num q
    rw [e, Int.neg_mul]; rfl
  have hr := redF_z (sumS (ofQ p).neg ((ofQ p).num * (oppF (ofQ q)).den) (oppF (ofQ q)).neg ((oppF (ofQ q)).num * (ofQ p).den)) (sumN (ofQ p).neg ((ofQ p).num * (oppF (ofQ q)).den) (oppF (ofQ q)).neg ((oppF (ofQ q)).num * (ofQ p).den)) ((ofQ p).den * (oppF (ofQ q)).den) (Nat.mul_pos (ofQ_den p) (ofQ_den q))
  rw [hz] at hr
  have hc : cmpQ p q = (p.num * q.den - q.num * p.den).sign := rfl
  generalize redF (sumS (ofQ p).neg ((ofQ p).num * (oppF (ofQ q)).den) (oppF (ofQ q)).neg ((oppF (ofQ q)).num * (ofQ p).den)) (sumN (ofQ p).neg ((ofQ p).num * (oppF (ofQ q)).den) (oppF (ofQ q)).neg ((oppF (ofQ q)).num * (ofQ p).den)) ((ofQ p).den * (oppF (ofQ q)).den) = d at *
  generalize p.num * q.den - q.num * p.den = z at *
  generalize oppF (ofQ q) = oq at *
  have hlen := limbs_len_pos (n := d.num)
  have res1 : d.neg = true → cmpQ p q = -1 := fun h => by
    rw [hr.1] at h
    rw [hc]; exact Int.sign_eq_neg_one_of_neg (of_decide_eq_true h)
  have res2 : d.neg = false → cmpQ p q = min ((limbs d.num).length : Int) 1 := fun h => by
    rw [hr.1] at h
    have h3 := of_decide_eq_false h
    rw [hc]
    by_cases h4 : z = 0
    · rw [h4]
      have := hr.2.2 h4
      have h5 : (limbs d.num).length = 0 := by omega
      rw [h5]; rfl
    · rw [Int.sign_eq_one_of_pos (by omega)]
      have : d.num ≠ 0 := fun h5 => h4 (hr.2.1 h5)
      omega
  clear hr hz hc
  refine Ok.enter Tryz.func78 rfl _ Tryz.ntmps78 rfl ?_
  intro S w
  (refine Qy (Qx fun K hK => ?_); refine Qt 0 rfl rfl rfl rfl rfl rfl rfl ?_; refine Qt 1 rfl rfl rfl rfl rfl rfl rfl ?_; refine Qv rfl rfl rfl ?_; refine Qj (hK _ _ (Qz (Qy ?_))); clear hK K)
  refine Xq (by with_reducible exact mixed) 5 (.f 0 (.f 1 (.fork 2 (.fork 3 (.m 4 (.a 5 .done)) 4 (.m 3 (.a 5 .done))) 4 (.m 2 (.m 3 (.a 5 .done)))))) (by kernel_rfl) (fun K hK => ?_)
  refine (fun (cont : Go.Own.Fin _ [(5, .own 2)] [(2, .box 38 (frCs d)), (1, .box 38 (frCs (ofQ q))), (0, .box 38 (frCs (ofQ p)))] K) => ?_) (hK _ _ ?_)
  rotate_left
  · clear hK K
    (refine Qz (Qy (Qy (Qx fun K hK => ?_))); refine QV rfl rfl rfl (by with_reducible first | exact fF0 | exact fF1 | exact fF2 | exact fR0 | exact fR1) rfl ?_; refine QJ rfl rfl rfl rfl rfl (by with_reducible first | exact lInt | exact lNat | exact lBool | exact lInts) rfl ?_; refine Qj (hK _ _ (Qz ?_)); clear hK K)
    refine X0 rfl (fun g => ?_) (fun g => ?_)
    · (refine Qy (Qx fun K hK => ?_); refine Qv rfl rfl rfl ?_; refine Qj (hK _ _ (Qz (Q3 (QW ?_)))); clear hK K)
      refine QK [_] rfl (QQ rfl Qu) (by rw [res1 g]; rfl) rfl
    · (refine QU (Qz (Qy (Qx fun K hK => ?_))); refine QV rfl rfl rfl (by with_reducible first | exact fF0 | exact fF1 | exact fF2 | exact fR0 | exact fR1) rfl ?_; refine QJ rfl rfl rfl rfl rfl (by with_reducible first | exact lInt | exact lNat | exact lBool | exact lInts) rfl ?_; refine Q4 rfl rfl (by with_reducible first | exact sNat.und | exact sInts.und) (List.length_map ..) rfl ?_; refine Ops.min2 rfl rfl rfl rfl ?_; refine Qv rfl rfl rfl ?_; refine Qj (hK _ _ (Qz (Q3 ?_))); clear hK K)
      refine QK [_] rfl (QQ rfl Qu) (by rw [res2 g]; rfl) rfl
  clear hK
  (refine Qp (n := 3) rfl rfl rfl rfl rfl (by with_reducible exact lFrac) rfl ?_; refine Qp (n := 3) rfl rfl rfl rfl rfl (by with_reducible exact lFrac) rfl ?_)
  refine Ops.fork ?_ ?_
  · refine QX gorOpposite h1 rfl rfl rfl rfl ?_
    refine Ops.fork ?_ ?_
    · refine QX gorsum h2 rfl rfl rfl rfl ?_
      (refine Qd 2 rfl rfl (by with_reducible first | exact zvFrac) rfl rfl rfl ?_; refine Qa 3 rfl rfl rfl rfl rfl (by with_reducible exact szFrac) rfl rfl ?_)
      exact Qj (X2 cont ⟨rfl, trivial⟩)
    · refine Qd 2 rfl rfl (by with_reducible exact zvFrac) rfl rfl rfl ?_
      refine QX gorsum h2 rfl rfl rfl rfl ?_
      (refine Qa 3 rfl rfl rfl rfl rfl (by with_reducible exact szFrac) rfl rfl ?_)
      exact Qj (X2 cont ⟨rfl, trivial⟩)
  · refine Qd 2 rfl rfl (by with_reducible exact zvFrac) rfl rfl rfl ?_
    refine QX gorOpposite h1 rfl rfl rfl rfl ?_
    refine QX gorsum h2 rfl rfl rfl rfl ?_
    (refine Qa 3 rfl rfl rfl rfl rfl (by with_reducible exact szFrac) rfl rfl ?_)
    exact Qj (X2 cont ⟨rfl, trivial⟩)
theorem gorFCompareQ : InGo Tryz.prog 25 := InGo.of Tryz.func25 (by kernel_rfl) (by kernel_rfl)
theorem rFCompare_q (p q : Rat) (l1 : (limbs (ofQ p).num).length ≤ 1000) (l2 : (limbs (ofQ p).den).length ≤ 1000) (l3 : (limbs (ofQ q).num).length ≤ 1000) (l4 : (limbs (ofQ q).den).length ≤ 1000) : Ok Tryz.prog 25 [ratC p, ratC q] (.fr (tupT [intC (cmpQ p q), intC 0])) := by
  refine Ok.enter Tryz.func25 rfl _ Tryz.ntmps25 rfl ?_
  intro S w
  (refine Qy (Qx fun K hK => ?_); refine Qt 0 rfl rfl rfl rfl rfl rfl rfl ?_; refine Qt 1 rfl rfl rfl rfl rfl rfl rfl ?_; refine Qv rfl rfl rfl ?_; refine Qv rfl rfl rfl ?_; refine Qj (hK _ _ (Qz (Qy ?_))); clear hK K; refine Qx (fun K hK => ?_); refine Qp (n := 3) rfl rfl rfl rfl rfl (by with_reducible exact lFrac) rfl ?_; refine Qp (n := 3) rfl rfl rfl rfl rfl (by with_reducible exact lFrac) rfl ?_)
  refine QX gorFOrderQ (rFOrder_q p q l1 l2 l3 l4) rfl rfl rfl rfl ?_
  (refine Qv rfl rfl rfl ?_; refine Qv rfl rfl rfl ?_; refine Qj (hK _ _ (Qz (Q3 ?_))); clear hK K)
  refine QK [_, _] rfl (QQ rfl (QQ rfl Qu)) rfl rfl
theorem goSign : InGo Tryz.prog 83 := InGo.of Tryz.func83 (by kernel_rfl) (by kernel_rfl)
def sgnF (f : Fr) : Int := if f.num = 0 then 0 else if f.neg then -1 else 1
theorem Sign_ok (f : Fr) : Ok Tryz.prog 83 [fracC f] (intC (sgnF f)) := by
  have hlen := limbs_len_pos (n := f.num)
  refine Ok.enter Tryz.func83 rfl _ Tryz.ntmps83 rfl ?_
  intro S w
  (refine Qy (Qx fun K hK => ?_); refine Qt 0 rfl rfl rfl rfl rfl rfl rfl ?_; refine Qv rfl rfl rfl ?_; refine Qj (hK _ _ (Qz (Qy (Q2 (Qy ?_))))); clear hK K; refine Qx (fun K hK => ?_); refine QV rfl rfl rfl (by with_reducible first | exact fF0 | exact fF1 | exact fF2 | exact fR0 | exact fR1) rfl ?_; refine QJ rfl rfl rfl rfl rfl (by with_reducible first | exact lInt | exact lNat | exact lBool | exact lInts) rfl ?_; refine Q4 rfl rfl (by with_reducible first | exact sNat.und | exact sInts.und) (List.length_map ..) rfl ?_; refine Qw ieql rfl rfl rfl rfl ?_; refine Qv rfl rfl rfl ?_; refine Qj (hK _ _ (Qz ?_)); clear hK K)
  refine Q0 rfl (fun h => ?_) (fun h => ?_)
  · (refine Qy (Qx fun K hK => ?_); refine Qv rfl rfl rfl ?_; refine Qj (hK _ _ (Qz (Q3 (Q9 (QW ?_))))); clear hK K)
    refine QK [_] rfl (QQ rfl Qu) (by unfold sgnF; rw [if_pos (by omega)]; rfl) rfl
  · (refine Qy (Qx fun K hK => ?_); refine QV rfl rfl rfl (by with_reducible first | exact fF0 | exact fF1 | exact fF2 | exact fR0 | exact fR1) rfl ?_; refine QJ rfl rfl rfl rfl rfl (by with_reducible first | exact lInt | exact lNat | exact lBool | exact lInts) rfl ?_; refine Qv rfl rfl rfl ?_; refine Qj (hK _ _ (Qz ?_)); clear hK K)
    refine X0 rfl (fun g => ?_) (fun g => ?_)
    · (refine Qy (Qx fun K hK => ?_); refine Qv rfl rfl rfl ?_; refine Qj (hK _ _ (Qz (Q3 (Q9 (QW ?_))))); clear hK K)
      refine QK [_] rfl (QQ rfl Qu) (by unfold sgnF; rw [if_neg (by omega), if_pos g]; rfl) rfl
    · (refine QU (Qz (Qy (Qx fun K hK => ?_))); refine Qv rfl rfl rfl ?_; refine Qj (hK _ _ (Qz (Q3 ?_))); clear hK K)
      refine QK [_] rfl (QQ rfl Qu) (by unfold sgnF; rw [if_neg (by omega), if_neg (by rw [g]; decide)]; rfl) rfl
theorem goPoint : InGo Tryz.prog 66 := InGo.of Tryz.func66 (by kernel_rfl) (by kernel_rfl)
set_option maxHeartbeats 4000000 in
theorem Point_ok (n : Int) (xs : List Fr) (hxl : xs.length ≤ 1000) (hx : ∀ f ∈ xs, VF f) : Ok Tryz.prog 66 [intC n, fracsC xs] (boolC (decide ((xs.length : Int) = n) && !(xs.any fun f => f.neg))) := by
  refine Ok.enter Tryz.func66 rfl _ Tryz.ntmps66 rfl ?_
  intro S w
  (refine Qy (Qx fun K hK => ?_); refine Qv rfl rfl rfl ?_; refine Qj (hK _ _ (Qz (Qy (Qy ?_)))); clear hK K; refine Qx (fun K hK => ?_); refine Qq rfl rfl rfl ?_; refine Q4 rfl rfl (by with_reducible first | exact sFracs.und | exact sRows.und) (List.length_map ..) rfl ?_; refine Qq rfl rfl rfl ?_; refine Qw ineq rfl rfl rfl rfl ?_; refine Qj (hK _ _ (Qz ?_)); clear hK K)
  refine Q0 rfl (fun h => ?_) (fun h => ?_)
  · (refine Qy (Qx fun K hK => ?_); refine Qv rfl rfl rfl ?_; refine Qj (hK _ _ (Qz (Q3 (QW ?_)))); clear hK K)
    refine QK [_] rfl (QQ rfl Qu) (by rw [decide_eq_false h]; rfl) rfl
  have hn : (xs.length : Int) = n := Classical.byContradiction h
  rw [decide_eq_true hn, Bool.true_and]
  (refine QU (Qz (Qy (Qy (Qx fun K hK => ?_)))); refine Qv rfl rfl rfl ?_; refine Qj (hK _ _ (Qz (Q2 ?_))); clear hK K)
  refine Ql (α := Nat) (fun i => i ≤ xs.length ∧ ∀ j, j < i → (xs.getD j fr0).neg = false)
    (fun i => [(0, .ct (intC n)), (1, .ct (fracsC xs)), (5, .ct (intC i))]) (fun _ => []) (fun i => xs.length - i) 0 ⟨Nat.zero_le _, fun j h => absurd h (Nat.not_lt_zero j)⟩ (by exact QZ rfl ⟨rfl, rfl, rfl, trivial⟩) ?_
  intro i ⟨hi, hv⟩
  (try dsimp only at hi hv ⊢)
  (refine Qy (Qy (Qx fun K hK => ?_)); refine Qq rfl rfl rfl ?_; refine Qq rfl rfl rfl ?_; refine Qw ilss rfl rfl rfl rfl ?_; refine Qj (hK _ _ (Qz ?_)); clear hK K)
  refine Q0 rfl (fun h2 => ?_) (fun h2 => ?_)
  · have e2 : (i : Int).toNat = i := Int.toNat_natCast i
    have hlt : i < xs.length := by omega
    have hmem := getD_mem (z := fr0) hlt
    have hVF := hx _ hmem
    have hV := rFValid_V _ hVF
    have hsg := Sign_ok (xs.getD i fr0)
    have hsn : sgnF (xs.getD i fr0) < 0 ↔ (xs.getD i fr0).neg = true := by
      unfold sgnF
      by_cases h3 : (xs.getD i fr0).num = 0
      · rw [if_pos h3]
        constructor
        · intro h4; omega
        · intro h4; exact absurd h3 (hVF.neg h4)
      · rw [if_neg h3]
        cases (xs.getD i fr0).neg <;> simp
    (refine QU (Qz (Qy (Q2 (Qy (Qx fun K hK => ?_))))); refine Qq rfl rfl rfl ?_; refine Qq rfl rfl rfl ?_; refine Qf rfl rfl rfl (by with_reducible exact sFracs) (by omega) (fracs_at (by omega) (by omega)) rfl ?_; refine X8 (n := 3) rfl rfl rfl (by with_reducible exact lFrac) rfl rfl ?_)
    rw [e2]
    skip
    refine QX gorFValid hV rfl rfl rfl rfl ?_
    (refine Qr rfl rfl rfl ?_; refine Qq rfl rfl rfl ?_; refine Qq rfl rfl rfl ?_; refine Qq rfl rfl rfl ?_; refine Qf rfl rfl rfl (by with_reducible exact sFracs) (by omega) (fracs_at (by omega) (by omega)) rfl ?_; refine X8 (n := 3) rfl rfl rfl (by with_reducible exact lFrac) rfl rfl ?_)
    rw [e2]
    skip
    refine QX goSign hsg rfl rfl rfl rfl ?_
    (refine Qw ilss rfl rfl rfl rfl ?_; refine Q6 rfl rfl rfl rfl ?_; refine Qj (hK _ _ (Qz ?_)); clear hK K)
    refine Q0 rfl (fun h3 => ?_) (fun h3 => ?_)
    · (refine Qy (Qx fun K hK => ?_); refine Qv rfl rfl rfl ?_; refine Qj (hK _ _ (Qz (Q3 (Q9 (QW (QW (Q9 (QW ?_)))))))); clear hK K)
      refine QK [_] rfl (QQ rfl Qu) (by rw [List.any_eq_true.mpr ⟨_, hmem, hsn.1 h3⟩]; rfl) rfl
    · (refine QU (Qz (Qx fun K hK => ?_)); refine Qq rfl rfl rfl ?_; refine Qw (iadd (by omega) (by omega)) rfl rfl rfl rfl ?_; refine Qv rfl rfl rfl ?_; refine Qj (hK _ _ (Q5 ?_)); clear hK K)
      refine Q8 (i + 1) (by omega) ⟨by omega, ?_⟩ (by exact QZ rfl ⟨rfl, rfl, by simp only [Int.natCast_add]; rfl, trivial⟩)
      intro j hj
      rcases Nat.lt_or_ge j i with h5 | h5
      · exact hv j h5
      · rw [show j = i by omega]
        cases h6 : (xs.getD i fr0).neg with
        | false => rfl
        | true => exact absurd (hsn.2 h6) h3
  · have hi' : i = xs.length := by omega
    (refine Qe (Qz (Qy (Qx fun K hK => ?_))); refine Qv rfl rfl rfl ?_; refine Qj (hK _ _ (Qz (Q3 ?_))); clear hK K)
    refine QK [_] rfl (QQ rfl Qu) (by
      rw [show (xs.any fun f => f.neg) = false from List.any_eq_false.mpr fun x hx => by
        obtain ⟨j, hj, rfl⟩ := List.getElem_of_mem hx
        have := hv j (by omega)
        rw [List.getD_eq_getElem?_getD, List.getElem?_eq_getElem hj] at this
        simpa using this]; rfl) rfl
theorem gorSatisfies : InGo Tryz.prog 21 := InGo.of Tryz.func21 (by kernel_rfl) (by kernel_rfl)
set_option maxHeartbeats 8000000 in
theorem rSatisfies_gen (n : Int) (rs : List Rw) (xs : List Fr) (hrl : rs.length < 4611686018427387904) (hcl : ∀ r ∈ rs, r.cs.length < 4611686018427387904) (hxl : xs.length ≤ 1000) (hx : ∀ f ∈ xs, VF f) (hS : validR n rs = true → (xs.length : Int) = n → SFit rs xs) :
    Ok Tryz.prog 21 [intC n, rowsC rs, fracsC xs] (boolC (satB n rs xs)) := by
  have hV := rLValid_ok n rs hrl hcl
  have hP := Point_ok n xs hxl hx
  have hsat : satB n rs xs = (validR n rs && (decide ((xs.length : Int) = n) && !(xs.any fun f => f.neg)) && rs.all fun r => decide (cmpQ (vsum r.cs xs) (r.b : Rat) ≤ 0)) := by
    unfold satB
    cases validR n rs <;> cases decide ((xs.length : Int) = n) <;> simp
  generalize satB n rs xs = res at *
  refine Ok.enter Tryz.func21 rfl _ Tryz.ntmps21 rfl ?_
  intro S w
  cases hv : validR n rs with
  | false =>
    rw [hv] at hV hsat
    (refine Qy (Qx fun K hK => ?_); refine Qv rfl rfl rfl ?_; refine Qj (hK _ _ (Qz (Qy (Qy ?_)))); clear hK K; refine Qx (fun K hK => ?_); refine Qq rfl rfl rfl ?_; refine Qq rfl rfl rfl ?_)
    refine QX gorLValid hV rfl rfl rfl rfl ?_
    (refine Qr rfl rfl rfl ?_; refine Qq rfl rfl rfl ?_; refine Qk rfl rfl rfl ?_; refine Qk rfl rfl rfl ?_; refine Qk rfl rfl rfl ?_; refine Qk rfl rfl rfl ?_; refine Q7 rfl rfl rfl rfl ?_; refine Qj (hK _ _ (Qz (Xk rfl (Qy ?_)))); clear hK K; refine Qx (fun K hK => ?_); refine Qv rfl rfl rfl ?_; refine Qj (hK _ _ (Qz (Q3 (QW ?_)))); clear hK K)
    refine QK [_] rfl (QQ rfl Qu) (by rw [hsat]; rfl) rfl
  | true =>
  rw [hv] at hV hsat
  cases hp : (decide ((xs.length : Int) = n) && !(xs.any fun f => f.neg)) with
  | false =>
    rw [hp] at hP hsat
    (refine Qy (Qx fun K hK => ?_); refine Qv rfl rfl rfl ?_; refine Qj (hK _ _ (Qz (Qy (Qy ?_)))); clear hK K; refine Qx (fun K hK => ?_); refine Qq rfl rfl rfl ?_; refine Qq rfl rfl rfl ?_)
    refine QX gorLValid hV rfl rfl rfl rfl ?_
    (refine Qr rfl rfl rfl ?_; refine Qq rfl rfl rfl ?_; refine Qq rfl rfl rfl ?_; refine Qq rfl rfl rfl ?_)
    refine QX goPoint hP rfl rfl rfl rfl ?_
    (refine Qr rfl rfl rfl ?_; refine Q6 rfl rfl rfl rfl ?_; refine Qj (hK _ _ (Qz (Xk rfl (Qy ?_)))); clear hK K; refine Qx (fun K hK => ?_); refine Qv rfl rfl rfl ?_; refine Qj (hK _ _ (Qz (Q3 (QW ?_)))); clear hK K)
    refine QK [_] rfl (QQ rfl Qu) (by rw [hsat]; rfl) rfl
  | true =>
    rw [Bool.and_eq_true] at hp
    have hn := of_decide_eq_true hp.1
    have H := hS hv hn
    obtain ⟨v1, v2, v3, v4⟩ := validR_spec hv
    have hp2 : (decide ((xs.length : Int) = n) && !(xs.any fun f => f.neg)) = true := by rw [Bool.and_eq_true]; exact hp
    rw [hp2] at hP hsat
    have hsat : res = rs.all fun r => decide (cmpQ (vsum r.cs xs) (r.b : Rat) ≤ 0) := by rw [hsat]; simp
    clear hp hp2 hS hx
    (refine Qy (Qx fun K hK => ?_); refine Qv rfl rfl rfl ?_; refine Qj (hK _ _ (Qz (Qy (Qy ?_)))); clear hK K; refine Qx (fun K hK => ?_); refine Qq rfl rfl rfl ?_; refine Qq rfl rfl rfl ?_)
    refine QX gorLValid hV rfl rfl rfl rfl ?_
    (refine Qr rfl rfl rfl ?_; refine Qq rfl rfl rfl ?_; refine Qq rfl rfl rfl ?_; refine Qq rfl rfl rfl ?_)
    refine QX goPoint hP rfl rfl rfl rfl ?_
    (refine Qr rfl rfl rfl ?_; refine Q6 rfl rfl rfl rfl ?_; refine Qj (hK _ _ (Qz (Qs rfl (QU (Qz (Qy (Qy ?_))))))); clear hK K; refine Qx (fun K hK => ?_); refine Qv rfl rfl rfl ?_; refine Qj (hK _ _ (Qz (Q2 ?_))); clear hK K)
    refine Ql (α := Nat) (fun i => i ≤ rs.length ∧ ∀ j, j < i → cmpQ (vsum (rs.getD j rw0).cs xs) ((rs.getD j rw0).b : Rat) ≤ 0)
      (fun i => [(1, .ct (rowsC rs)), (2, .ct (fracsC xs)), (7, .ct (intC i))]) (fun _ => []) (fun i => rs.length - i) 0 ⟨Nat.zero_le _, fun j h => absurd h (Nat.not_lt_zero j)⟩ (by exact QZ rfl ⟨rfl, rfl, rfl, trivial⟩) ?_
    intro i ⟨hi, hj⟩
    (try dsimp only at hi hj ⊢)
    (refine Qy (Qy (Qx fun K hK => ?_)); refine Qq rfl rfl rfl ?_; refine Qq rfl rfl rfl ?_; refine Q4 rfl rfl (by with_reducible first | exact sFracs.und | exact sRows.und) (List.length_map ..) rfl ?_; refine Qw ilss rfl rfl rfl rfl ?_; refine Qj (hK _ _ (Qz ?_)); clear hK K)
    refine Q0 rfl (fun h => ?_) (fun h => ?_)
    · have e2 : (i : Int).toNat = i := Int.toNat_natCast i
      have hlt : i < rs.length := by omega
      have hmem := getD_mem (z := rw0) hlt
      obtain ⟨r1, r2, r3⟩ := v4 (rs.getD i rw0) hmem
      have hVal := rValue_gen (rs.getD i rw0).cs xs (H.v _ hmem)
      have hb := int_lens r3
      have hCm := rFCompare_q (vsum (rs.getD i rw0).cs xs) ((rs.getD i rw0).b : Rat) (by have := H.s1 _ hmem; omega) (by have := H.s2 _ hmem; omega) (by omega) (by omega)
      have hFr := Whole_ok (rs.getD i rw0).b (by omega) (by omega)
      (refine QU (Qz (Qy (Q2 (Qy (Qx fun K hK => ?_))))); refine Qq rfl rfl rfl ?_; refine Qq rfl rfl rfl ?_; refine Qf rfl rfl rfl (by with_reducible exact sRows) (by omega) (rows_at (by omega) (by omega)) rfl ?_; refine Xc rfl rfl (by with_reducible first | exact fF0 | exact fF1 | exact fF2 | exact fR0 | exact fR1) rfl ?_; refine Qm rfl rfl rfl (by with_reducible first | exact lInt | exact lNat | exact lBool | exact lInts) rfl ?_; refine Qq rfl rfl rfl ?_)
      rw [e2]
      skip
      refine QX gorValue hVal rfl rfl rfl rfl ?_
      (refine Qq rfl rfl rfl ?_; refine QY rfl rfl rfl rfl ?_; refine QY rfl rfl rfl rfl ?_; refine Qd 0 rfl rfl (by with_reducible first | exact zvFrac) rfl rfl rfl ?_; refine Qa 3 rfl rfl rfl rfl rfl (by with_reducible exact szFrac) rfl rfl ?_; refine Qv rfl rfl rfl ?_; refine Qj (hK _ _ (Qz (Qy (Qy ?_)))); clear hK K; refine Qx (fun K hK => ?_); refine Qq rfl rfl rfl ?_; refine Qw ineq rfl rfl rfl rfl ?_; refine Qj (hK _ _ (Qz (Qs rfl (QU (Qz (Qy ?_)))))); clear hK K)
      refine Xq (by with_reducible exact mixed) 13 (.p 1 (.p 2 (.p 3 (.p 4 (.f 0 (.f 5 (.m 6 (.m 7 (.p 8 (.p 9 (.p 10 (.p 11 (.p 12 .done))))))))))))) (by kernel_rfl) (fun K hK => ?_)
      (refine Qq rfl rfl rfl ?_; refine Qq rfl rfl rfl ?_; refine Qf rfl rfl rfl (by with_reducible exact sRows) (by omega) (rows_at (by omega) (by omega)) rfl ?_; refine Xc rfl rfl (by with_reducible first | exact fF0 | exact fF1 | exact fF2 | exact fR0 | exact fR1) rfl ?_; refine Qp (n := 3) rfl rfl rfl rfl rfl (by with_reducible exact lFrac) rfl ?_; refine Qm rfl rfl rfl (by with_reducible first | exact lInt | exact lNat | exact lBool | exact lInts) rfl ?_)
      rw [e2]
      skip
      refine QX goWhole hFr rfl rfl rfl rfl ?_
      refine QX gorFCompareQ hCm rfl rfl rfl rfl ?_
      (refine Qq rfl rfl rfl ?_; refine QY rfl rfl rfl rfl ?_; refine QY rfl rfl rfl rfl ?_; refine Qv rfl rfl rfl ?_; refine Qv rfl rfl rfl ?_; refine Qj (hK _ _ (Qz (Qy ?_))); clear hK K; refine Qx (fun K hK => ?_); refine Qq rfl rfl rfl ?_; refine Qw igtr rfl rfl rfl rfl ?_; refine Qj (hK _ _ (Qz ?_)); clear hK K)
      refine Q0 rfl (fun h2 => ?_) (fun h2 => ?_)
      · (refine Qy (Qx fun K hK => ?_); refine Qv rfl rfl rfl ?_; refine Qj (hK _ _ (Qz (Q3 (Q9 (QW (QW (Q9 (QW ?_)))))))); clear hK K)
        refine QK [_] rfl (QQ rfl Qu) (by
          rw [hsat, List.all_eq_false.mpr ⟨_, hmem, by simp only [decide_eq_true_eq]; omega⟩]; rfl) rfl
      · (refine QU (Qz (Qx fun K hK => ?_)); refine Qq rfl rfl rfl ?_; refine Qw (iadd (by omega) (by omega)) rfl rfl rfl rfl ?_; refine Qv rfl rfl rfl ?_; refine Qj (hK _ _ (Q5 ?_)); clear hK K)
        refine XY 0 ?_
        refine Q8 (i + 1) (by omega) ⟨by omega, ?_⟩ (by exact QZ rfl ⟨rfl, rfl, by simp only [Int.natCast_add]; rfl, trivial⟩)
        intro j hj'
        rcases Nat.lt_or_ge j i with h3 | h3
        · exact hj j h3
        · have : j = i := by omega
          rw [this]; omega
    · have hi' : i = rs.length := by omega
      (refine Qe (Qz (Qy (Qx fun K hK => ?_))); refine Qv rfl rfl rfl ?_; refine Qj (hK _ _ (Qz (Q3 ?_))); clear hK K)
      refine QK [_] rfl (QQ rfl Qu) (by
        rw [hsat, List.all_eq_true.mpr fun r hr => by
          obtain ⟨j, hj2, rfl⟩ := List.getElem_of_mem hr
          have := hj j (by omega)
          simp only [List.getD_eq_getElem?_getD, List.getElem?_eq_getElem hj2, Option.getD_some] at this
          exact decide_eq_true this]; rfl) rfl
end Go.Proofs.YtdhmbgogmoaofaaGreat
namespace Go.Proofs.YtdhmbgogmoaofaaGreat
open Go.Own Go.Limbs Go.Det
theorem sm_app (f : Nat → Int) (n : Nat) : ∀ m, sm f (n + m) = sm f n + sm (fun k => f (n + k)) m
  | 0 => by simp [sm]
  | m + 1 => by
    rw [show n + (m + 1) = (n + m) + 1 by omega]
    simp only [sm]
    rw [sm_app f n m]; omega
theorem sm_neg (f : Nat → Int) (m : Nat) : sm (fun k => -(f k)) m = -(sm f m) := by
  have := sm_mul (-1) f m
  rw [← sm_congr (f := fun k => -(f k)) (g := fun k => -1 * f k) fun k _ => by omega] at this
  omega
def ca (rs : List Rw) (i j : Nat) : Int := (rs.getD i rw0).cs.getD j 0
def cb (rs : List Rw) (i : Nat) : Int := (rs.getD i rw0).b
section
variable {n : Nat} {rs : List Rw} {c : List Int} {W : Nat} {T : Tv} {bs : List Nat}
def vx (n : Nat) (rs : List Rw) (c : List Int) (bs : List Nat) (x : Vec) (v : Nat) : Int := sm (fun k => if bs.getD k 0 = v then tt (colA n rs c) bs k x else 0) rs.length
theorem vx_row (h : Ph n rs c W T bs) {k : Nat} (hk : k < rs.length) (x : Vec) : vx n rs c bs x (bs.getD k 0) = tt (colA n rs c) bs k x := by
  unfold vx
  rw [sm_one hk fun j hj hjk => ?_, if_pos rfl]
  exact if_neg fun e => h.bas.ne (dup_zero (i := k) (k := j) (by rw [h.bas.len]; omega) (by rw [h.bas.len]; omega) hjk e.symm)
theorem vx_out {v : Nat} (hv : ∀ k, k < rs.length → bs.getD k 0 ≠ v) (x : Vec) : vx n rs c bs x v = 0 := sm_zero fun k hk => if_neg (hv k hk)
theorem vx_nn (x : Vec) (hx : ∀ k, k < rs.length → 0 ≤ tt (colA n rs c) bs k x) (v : Nat) : 0 ≤ vx n rs c bs x v := sm_nonneg fun k hk => by
  split
  · exact hx k hk
  · exact Int.le_refl _
theorem Ph.rowsum (h : Ph n rs c (n + rs.length) T bs) {x : Vec} (hx : Vok (rs.length + 2) x) {i : Nat} (hi : i ≤ rs.length) :
    Go.Det.den (colA n rs c) bs * x i = sm (fun v => colA n rs c v i * vx n rs c bs x v) (n + rs.length) + (if i = rs.length then tt (colA n rs c) bs rs.length x else 0) := by
  have e1 : sm (fun v => colA n rs c v i * vx n rs c bs x v) (n + rs.length) = sm (fun k => tt (colA n rs c) bs k x * colA n rs c (bs.getD k 0) i) rs.length := by
    have e2 : ∀ v, colA n rs c v i * vx n rs c bs x v = sm (fun k => colA n rs c v i * (if bs.getD k 0 = v then tt (colA n rs c) bs k x else 0)) rs.length := fun v => by unfold vx; rw [sm_mul]
    rw [sm_congr (g := fun v => sm (fun k => colA n rs c v i * (if bs.getD k 0 = v then tt (colA n rs c) bs k x else 0)) rs.length) fun v _ => e2 v]
    rw [sm_swap (fun k v => colA n rs c v i * (if bs.getD k 0 = v then tt (colA n rs c) bs k x else 0)) rs.length (n + rs.length)]
    refine sm_congr fun k hk => ?_
    have hb := h.good.cov.bas k hk
    rw [sm_one hb fun v _ hv => by rw [if_neg (Ne.symm hv), Int.mul_zero], if_pos rfl, Int.mul_comm]
  rw [h.comp hx, e1]
  simp only [sm]
  rw [h.z, h.w, colA_z, colA_w]
  have u2 : Go.Det.unit (rs.length + 1) i = 0 := if_neg (by omega)
  rw [u2, Int.mul_zero, Int.add_zero]
  by_cases hi2 : i = rs.length
  · rw [if_pos hi2, hi2, show Go.Det.unit rs.length rs.length = 1 from if_pos rfl, Int.mul_one]
  · rw [if_neg hi2, show Go.Det.unit rs.length i = 0 from if_neg hi2, Int.mul_zero]
theorem low_sum (i : Nat) (hi : i < rs.length) (y : Nat → Int) : sm (fun v => colA n rs c v i * y v) (n + rs.length) = sm (fun j => ca rs i j * y j) n + y (n + i) := by
  rw [sm_app]
  congr 1
  · exact sm_congr fun v hv => by rw [colA_low hv, if_pos hi]; rfl
  · rw [sm_one hi fun k hk hki => by rw [colA_slack hk, show Go.Det.unit k i = 0 from if_neg (Ne.symm hki), Int.zero_mul], colA_slack hi, show Go.Det.unit i i = 1 from if_pos rfl, Int.one_mul]
theorem goal_sum (y : Nat → Int) : sm (fun v => colA n rs c v rs.length * y v) (n + rs.length) = -(sm (fun j => c.getD j 0 * y j) n) := by
  rw [sm_app, sm_zero (f := fun k => colA n rs c (n + k) rs.length * y (n + k)) fun k hk => by rw [colA_slack hk, show Go.Det.unit k rs.length = 0 from if_neg (by omega), Int.zero_mul], Int.add_zero, ← sm_neg]
  exact sm_congr fun v hv => by rw [colA_low hv, if_neg (by omega), if_pos rfl]; grind
structure Feas (n : Nat) (rs : List Rw) (D : Int) (X : Nat → Int) : Prop where
  den : 0 < D
  nn : ∀ v, v < n → 0 ≤ X v
  row : ∀ i, i < rs.length → sm (fun j => ca rs i j * X j) n ≤ D * cb rs i
theorem Ph.point (h : Ph n rs c (n + rs.length) T bs) : Feas n rs (Go.Det.den (colA n rs c) bs) (vx n rs c bs (rhsQ rs)) ∧ sm (fun j => c.getD j 0 * vx n rs c bs (rhsQ rs) j) n = tt (colA n rs c) bs rs.length (rhsQ rs) := by
  have hnn := vx_nn (n := n) (rs := rs) (c := c) (bs := bs) (rhsQ rs) h.good.feas
  refine ⟨⟨den_pos h.bas.ne, fun v _ => hnn v, fun i hi => ?_⟩, ?_⟩
  · have h1 := h.rowsum (rhsQ_V (rs := rs)) (i := i) (by omega)
    rw [low_sum i hi, if_neg (by omega)] at h1
    have h2 := hnn (n + i)
    have h3 : rhsQ rs i = cb rs i := if_pos hi
    rw [h3] at h1
    omega
  · have h1 := h.rowsum (rhsQ_V (rs := rs)) (i := rs.length) (Nat.le_refl _)
    rw [goal_sum, if_pos rfl, show rhsQ rs rs.length = 0 from if_neg (by omega), Int.mul_zero] at h1
    omega
theorem Ph.func (h : Ph n rs c W T bs) {g : Nat} (hg : g < rs.length + 2) {x : Vec} (hx : Vok (rs.length + 2) x) : tt (colA n rs c) bs g x = sm (fun k => x k * tt (colA n rs c) bs g (Go.Det.unit k)) (rs.length + 2) := by
  have e : x = comb x Go.Det.unit (rs.length + 2) := by
    funext j
    unfold comb
    by_cases hj : j < rs.length + 2
    · rw [sm_one hj fun k _ hk => by simp [Go.Det.unit, Ne.symm hk]]; simp [Go.Det.unit]
    · rw [hx j (by omega), sm_zero fun k hk => by rw [show Go.Det.unit k j = 0 from if_neg (by omega), Int.mul_zero]]
  have e2 : dT (colA n rs c) bs g x = sm (fun k => x k * dT (colA n rs c) bs g (Go.Det.unit k)) (rs.length + 2) := by
    unfold dT
    conv => lhs; rw [e]
    exact dt_set_comb (by rw [cols_len, h.bas.len]; omega) _ _ _
  unfold tt
  rw [e2, ← sm_mul]
  exact sm_congr fun k _ => by grind
def yx (n : Nat) (rs : List Rw) (c : List Int) (bs : List Nat) (g i : Nat) : Int := tt (colA n rs c) bs g (colA n rs c (n + i))
theorem Ph.dual_sum (h : Ph n rs c W T bs) {g : Nat} (hg : g = rs.length ∨ g = rs.length + 1) {x : Vec} (hx : Vok (rs.length + 2) x) (hx1 : x (rs.length + 1) = 0) :
    tt (colA n rs c) bs g x = sm (fun i => x i * yx n rs c bs g i) rs.length + (if g = rs.length then x rs.length * Go.Det.den (colA n rs c) bs else 0) := by
  rw [h.func (by omega) hx]
  simp only [sm]
  rw [hx1, Int.zero_mul, Int.add_zero]
  congr 1
  · exact sm_congr fun k hk => by rw [← colA_slack (n := n) (c := c) hk]; rfl
  · rw [← colA_z (n := n) (c := c), ← h.z]
    rcases hg with rfl | rfl
    · rw [if_pos rfl, tt_own h.bas.len (by omega)]
    · rw [if_neg (by omega), tt_other h.bas.len (by omega) (by omega) (by omega), Int.mul_zero]
theorem colA_w0 {v : Nat} (hv : v < n + rs.length) : colA n rs c v (rs.length + 1) = 0 := by
  by_cases h1 : v < n
  · rw [colA_low h1, if_neg (by omega), if_neg (by omega)]
  · obtain ⟨i, rfl⟩ : ∃ i, v = n + i := ⟨v - n, by omega⟩
    rw [colA_slack (by omega)]; exact if_neg (by omega)
structure Dual (n : Nat) (rs : List Rw) (c : List Int) (D : Int) (Y : Nat → Int) : Prop where
  den : 0 < D
  nn : ∀ i, i < rs.length → 0 ≤ Y i
  col : ∀ j, j < n → D * c.getD j 0 ≤ sm (fun i => ca rs i j * Y i) rs.length
theorem Ph.dual (h : Ph n rs c W T bs) (hc : ∀ v, v < n + rs.length → 0 ≤ tt (colA n rs c) bs rs.length (colA n rs c v)) :
    Dual n rs c (Go.Det.den (colA n rs c) bs) (yx n rs c bs rs.length) ∧ sm (fun i => cb rs i * yx n rs c bs rs.length i) rs.length = tt (colA n rs c) bs rs.length (rhsQ rs) := by
  refine ⟨⟨den_pos h.bas.ne, fun i hi => hc (n + i) (by omega), fun j hj => ?_⟩, ?_⟩
  · have h1 := h.dual_sum (.inl rfl) (colA_V (n := n) (rs := rs) (c := c) j) (colA_w0 (by omega))
    have h2 := hc j (by omega)
    rw [h1, if_pos rfl, colA_low hj, if_neg (by omega), if_pos rfl] at h2
    have e : sm (fun i => colA n rs c j i * yx n rs c bs rs.length i) rs.length = sm (fun i => ca rs i j * yx n rs c bs rs.length i) rs.length := sm_congr fun i hi => by rw [colA_low hj, if_pos hi]; rfl
    rw [e] at h2
    have : -c.getD j 0 * Go.Det.den (colA n rs c) bs = -(Go.Det.den (colA n rs c) bs * c.getD j 0) := by grind
    omega
  · have h1 := h.dual_sum (.inl rfl) (rhsQ_V (rs := rs)) (show rhsQ rs (rs.length + 1) = 0 from if_neg (by omega))
    rw [h1, if_pos rfl, show rhsQ rs rs.length = 0 from if_neg (by omega), Int.zero_mul, Int.add_zero]
    exact sm_congr fun i hi => by rw [show rhsQ rs i = cb rs i from if_pos hi]
structure Refu (n : Nat) (rs : List Rw) (D : Int) (Y : Nat → Int) : Prop where
  den : 0 < D
  nn : ∀ i, i < rs.length → 0 ≤ Y i
  col : ∀ j, j < n → 0 ≤ sm (fun i => ca rs i j * Y i) rs.length
  neg : sm (fun i => cb rs i * Y i) rs.length < 0
theorem End1.refu {E : Tv} (h : End1 n rs c T E bs) (hv : tt (colA n rs c) bs (rs.length + 1) (rhsQ rs) < 0) : Refu n rs (Go.Det.den (colA n rs c) bs) (yx n rs c bs (rs.length + 1)) := by
  refine ⟨den_pos h.ph.bas.ne, fun i hi => h.cover (n + i) (by omega), fun j hj => ?_, ?_⟩
  · have h1 := h.ph.dual_sum (.inr rfl) (colA_V (n := n) (rs := rs) (c := c) j) (colA_w0 (by omega))
    have h2 := h.cover j (by omega)
    rw [h1, if_neg (by omega), Int.add_zero] at h2
    rw [sm_congr (g := fun i => ca rs i j * yx n rs c bs (rs.length + 1) i) fun i hi => by rw [colA_low hj, if_pos hi]; rfl] at h2
    exact h2
  · have h1 := h.ph.dual_sum (.inr rfl) (rhsQ_V (rs := rs)) (show rhsQ rs (rs.length + 1) = 0 from if_neg (by omega))
    rw [if_neg (by omega), Int.add_zero] at h1
    rw [h1, sm_congr (g := fun i => cb rs i * yx n rs c bs (rs.length + 1) i) fun i hi => by rw [show rhsQ rs i = cb rs i from if_pos hi]] at hv
    exact hv
structure Ray (n : Nat) (rs : List Rw) (c : List Int) (D : Int) (Z : Nat → Int) : Prop where
  den : 0 < D
  nn : ∀ v, v < n → 0 ≤ Z v
  row : ∀ i, i < rs.length → sm (fun j => ca rs i j * Z j) n ≤ 0
  goal : 0 < sm (fun j => c.getD j 0 * Z j) n
def zx (n : Nat) (rs : List Rw) (c : List Int) (bs : List Nat) (s v : Nat) : Int := (if v = s then Go.Det.den (colA n rs c) bs else 0) - vx n rs c bs (colA n rs c s) v
theorem Ph.ray (h : Ph n rs c (n + rs.length) T bs) {s : Nat} (hs : s < n + rs.length) (hb : ∀ k, k < rs.length → bs.getD k 0 ≠ s) (hg : tt (colA n rs c) bs rs.length (colA n rs c s) < 0) (hl : ∀ k, k < rs.length → tt (colA n rs c) bs k (colA n rs c s) ≤ 0) :
    Ray n rs c (Go.Det.den (colA n rs c) bs) (zx n rs c bs s) := by
  have hd := den_pos h.bas.ne
  have hv0 : ∀ v, vx n rs c bs (colA n rs c s) v ≤ 0 := fun v => by
    have : sm (fun k => if bs.getD k 0 = v then tt (colA n rs c) bs k (colA n rs c s) else 0) rs.length ≤ sm (fun _ => 0) rs.length := sm_le fun k hk => by
      split
      · exact hl k hk
      · exact Int.le_refl _
    rw [sm_zero (f := fun _ => 0) fun _ _ => rfl] at this
    exact this
  have hnn : ∀ v, 0 ≤ zx n rs c bs s v := fun v => by
    unfold zx
    have := hv0 v
    split <;> omega
  have hsum : ∀ i, sm (fun v => colA n rs c v i * zx n rs c bs s v) (n + rs.length) = Go.Det.den (colA n rs c) bs * colA n rs c s i - sm (fun v => colA n rs c v i * vx n rs c bs (colA n rs c s) v) (n + rs.length) := fun i => by
    have e : sm (fun v => colA n rs c v i * zx n rs c bs s v) (n + rs.length) = sm (fun v => (if v = s then colA n rs c v i * Go.Det.den (colA n rs c) bs else 0) + (-1) * (colA n rs c v i * vx n rs c bs (colA n rs c s) v)) (n + rs.length) := sm_congr fun v _ => by
      unfold zx
      split <;> grind
    rw [e, sm_add, sm_mul, sm_one hs fun v _ hv => if_neg hv, if_pos rfl, Int.mul_comm]
    omega
  refine ⟨hd, fun v _ => hnn v, fun i hi => ?_, ?_⟩
  · have h1 := h.rowsum (colA_V (n := n) (rs := rs) (c := c) s) (i := i) (by omega)
    rw [if_neg (by omega), Int.add_zero] at h1
    have h2 := hsum i
    rw [h1, Int.sub_self, low_sum i hi] at h2
    have := hnn (n + i)
    omega
  · have h1 := h.rowsum (colA_V (n := n) (rs := rs) (c := c) s) (i := rs.length) (Nat.le_refl _)
    rw [if_pos rfl] at h1
    have h2 := hsum rs.length
    rw [goal_sum] at h2
    omega
theorem Ph.pt_at (h : Ph n rs c (n + rs.length) T bs) {v : Nat} (hv : v < n) : (ptS T n T.bas.length).getD v 0 = shq (vx n rs c bs (rhsQ rs) v) (Go.Det.den (colA n rs c) bs) := by
  have hV := h.good.view
  rw [hV.basl]
  have key : ∀ q, q ≤ rs.length → (ptS T n q).getD v 0 = shq (sm (fun k => if bs.getD k 0 = v then tt (colA n rs c) bs k (rhsQ rs) else 0) q) (Go.Det.den (colA n rs c) bs) := by
    intro q hq
    induction q with
    | zero => simp only [ptS, sm, shq_zero]; simp [List.getD_eq_getElem?_getD, List.getElem?_replicate, hv]
    | succ q ih =>
      have ih := ih (by omega)
      have hbq := hV.basv q (by omega)
      have hl := ptS_len T n q
      simp only [ptS, sm]
      by_cases h1 : bs.getD q 0 = v
      · rw [if_pos (by rw [hbq, h1]; omega), hbq, h1, Int.toNat_natCast, set_getD (by omega), if_pos rfl, if_pos rfl, hV.den]
        rw [sm_zero fun k hk => if_neg fun e => h.bas.ne (dup_zero (i := q) (k := k) (by rw [h.bas.len]; omega) (by rw [h.bas.len]; omega) (by omega) (by rw [h1, e]))]
        rw [Int.zero_add, hV.rhs q (by have := hV.rm; omega)]
      · rw [if_neg h1, Int.add_zero, ← ih]
        split
        · rw [hbq, Int.toNat_natCast, set_getD (by rw [hl]; omega), if_neg h1]
        · rfl
  exact key rs.length (Nat.le_refl _)
theorem Ph.du_at (h : Ph n rs c W T bs) {g i : Nat} (hW : n + rs.length ≤ W) (hg : rs.length ≤ g) (hgT : g < T.rows.length) (hi : i < rs.length) : (duS T n rs.length g T.col.length).getD i 0 = shq (yx n rs c bs g i) (Go.Det.den (colA n rs c) bs) := by
  have hV := h.good.view
  have hC := h.good.cov
  have hl := duS_len T n rs.length g
  have hgM : g < rs.length + 2 := by have := hV.rM; omega
  have none : ∀ q, q ≤ T.col.length → (∀ j, j < q → T.col.getD j 0 ≠ ((n + i : Nat) : Int)) → (duS T n rs.length g q).getD i 0 = 0 := by
    intro q hq hn
    induction q with
    | zero => simp only [duS]; simp [List.getD_eq_getElem?_getD, List.getElem?_replicate, hi]
    | succ q ih =>
      have ih := ih (by omega) (fun j hj => hn j (by omega))
      simp only [duS]
      split
      · rw [set_getD (by rw [hl]; omega), if_neg (by have := hn q (by omega); omega)]; exact ih
      · exact ih
  rcases hC.all (n + i) (by omega) with ⟨k, hk, he⟩ | ⟨j, hj, he⟩
  · have hy : yx n rs c bs g i = 0 := by
      unfold yx
      rw [← he]; exact tt_other h.bas.len hgM (by omega) (by omega)
    rw [hy, shq_zero]
    refine none _ (Nat.le_refl _) (fun j hj e => ?_)
    have := hC.dis j k hj hk
    omega
  · have hy : yx n rs c bs g i = T.at g j := by
      rw [hV.num g hgT j hj, he, Int.toNat_natCast]; rfl
    have key : ∀ q, q ≤ T.col.length → j < q → (duS T n rs.length g q).getD i 0 = shq (T.at g j) T.den := by
      intro q hq hjq
      induction q with
      | zero => omega
      | succ q ih =>
        simp only [duS]
        by_cases h1 : j = q
        · subst h1
          rw [if_pos (by omega), set_getD (by rw [hl]; omega), if_pos (by omega)]
        · have ih := ih (by omega) (by omega)
          split
          · rw [set_getD (by rw [hl]; omega), if_neg (by have := hC.inj j q hj (by omega) h1; omega)]; exact ih
          · exact ih
    rw [key _ (Nat.le_refl _) hj, hy, hV.den]
theorem Ph.ra_at (h : Ph n rs c (n + rs.length) T bs) {e s v : Nat} (he : e < T.col.length) (hs : T.col.getD e 0 = (s : Int)) (hv : v < n) : (raS T n e T.bas.length).getD v 0 = shq (zx n rs c bs s v) (Go.Det.den (colA n rs c) bs) := by
  have hV := h.good.view
  have hC := h.good.cov
  rw [hV.basl]
  have hnb : ∀ k, k < rs.length → bs.getD k 0 ≠ s := fun k hk e2 => by have := hC.dis e k he hk; omega
  have key : ∀ q, q ≤ rs.length → (raS T n e q).getD v 0 = shq ((if v = s then Go.Det.den (colA n rs c) bs else 0) - sm (fun k => if bs.getD k 0 = v then tt (colA n rs c) bs k (colA n rs c s) else 0) q) (Go.Det.den (colA n rs c) bs) := by
    intro q hq
    induction q with
    | zero =>
      simp only [raS, sm, Int.sub_zero]
      rw [hs]
      by_cases h1 : v = s
      · subst h1
        rw [if_pos (by omega), Int.toNat_natCast, set_getD (by simp; omega), if_pos rfl, if_pos rfl, hV.den]
      · rw [if_neg h1, shq_zero]
        split
        · rw [Int.toNat_natCast, set_getD (by simp; omega), if_neg (Ne.symm h1)]; simp [List.getD_eq_getElem?_getD, List.getElem?_replicate, hv]
        · simp [List.getD_eq_getElem?_getD, List.getElem?_replicate, hv]
    | succ q ih =>
      have ih := ih (by omega)
      have hbq := hV.basv q (by omega)
      have hl := raS_len T n e q
      simp only [raS, sm]
      by_cases h1 : bs.getD q 0 = v
      · have hvs : v ≠ s := fun e2 => hnb q (by omega) (by rw [h1, e2])
        rw [if_pos (by rw [hbq, h1]; omega), hbq, h1, Int.toNat_natCast, set_getD (by omega), if_pos rfl, if_pos rfl, if_neg hvs, hV.den]
        rw [sm_zero fun k hk => if_neg fun e2 => h.bas.ne (dup_zero (i := q) (k := k) (by rw [h.bas.len]; omega) (by rw [h.bas.len]; omega) (by omega) (by rw [h1, e2]))]
        rw [hV.num q (by have := hV.rm; omega) e he, hs, Int.toNat_natCast]
        congr 1; omega
      · rw [if_neg h1, Int.add_zero, ← ih]
        split
        · rw [hbq, Int.toNat_natCast, set_getD (by rw [hl]; omega), if_neg h1]
        · rfl
  exact key rs.length (Nat.le_refl _)
end
end Go.Proofs.YtdhmbgogmoaofaaGreat
namespace Go.Proofs.YtdhmbgogmoaofaaGreat
open Go.Own Go.Limbs Go.Det
def ptl (n : Nat) (X : Nat → Int) (D : Int) : List Fr := (List.range n).map fun v => ofQ (shq (X v) D)
theorem list_range {α : Type} {l : List α} {n : Nat} {f : Nat → α} {z : α} (hl : l.length = n) (h : ∀ v, v < n → l.getD v z = f v) : l = (List.range n).map f := by
  subst hl
  rw [← range_self l z]
  rw [List.length_map, List.length_range]
  exact List.map_congr_left fun v hv => h v (by simpa using hv)
def Kt (m : Nat) : Nat := (m + 2) * (4503599627370496 * (fact (m + 2) * 1048576 ^ (m + 2)))
inductive Sol (n : Nat) (rs : List Rw) (c : List Int) : Oc → Prop
  | opt (D : Int) (X Y : Nat → Int) (val : Int) (hX : Feas n rs D X) (hv : sm (fun j => c.getD j 0 * X j) n = val) (hY : Dual n rs c D Y) (hw : sm (fun i => cb rs i * Y i) rs.length = val)
      (b1 : D.natAbs ≤ Kt rs.length) (b2 : ∀ v, v < n → (X v).natAbs ≤ Kt rs.length) (b3 : ∀ i, i < rs.length → (Y i).natAbs ≤ Kt rs.length) (b4 : val.natAbs ≤ Kt rs.length) : Sol n rs c ⟨1, ofQ (shq val D), ptl n X D, [], ptl rs.length Y D⟩
  | unb (D : Int) (X Z : Nat → Int) (hX : Feas n rs D X) (hZ : Ray n rs c D Z)
      (b1 : D.natAbs ≤ Kt rs.length) (b2 : ∀ v, v < n → (X v).natAbs ≤ Kt rs.length) (b3 : ∀ v, v < n → (Z v).natAbs ≤ Kt rs.length) : Sol n rs c ⟨2, frz0, ptl n X D, ptl n Z D, []⟩
  | emp (D : Int) (Y : Nat → Int) (hY : Refu n rs D Y) (b1 : D.natAbs ≤ Kt rs.length) (b3 : ∀ i, i < rs.length → (Y i).natAbs ≤ Kt rs.length) : Sol n rs c ⟨3, frz0, [], [], ptl rs.length Y D⟩
section
variable {n : Nat} {rs : List Rw} {c : List Int} {W : Nat} {T : Tv} {bs : List Nat}
theorem dT_Kt (h : LpOk n rs c) {i : Nat} {x : Vec} (hl : bs.length = rs.length + 2) (hi : i < rs.length + 2) (hx2 : x = rhsQ rs ∨ ∃ v, x = colA n rs c v) : (dT (colA n rs c) bs i x).natAbs ≤ Kt rs.length := by
  have dtb : ∀ l : List Vec, l.length = rs.length + 2 → (∀ x ∈ l, ∀ i, (x i).natAbs ≤ 1048576) → (dt l).natAbs ≤ fact (rs.length + 2) * 1048576 ^ (rs.length + 2) := fun l hl hA => by
    have h1 := dt_bd l hA
    rwa [hl] at h1
  unfold Kt
  rcases hx2 with rfl | ⟨v, rfl⟩
  · have e : rhsQ rs = comb (rhsQ rs) Go.Det.unit (rs.length + 2) := by
      funext j
      unfold comb
      by_cases hj : j < rs.length + 2
      · rw [sm_one hj fun k _ hk => by simp [Go.Det.unit, Ne.symm hk]]; simp [Go.Det.unit]
      · rw [rhsQ_V j (by omega), sm_zero fun k hk => by rw [show Go.Det.unit k j = 0 from if_neg (by omega), Int.mul_zero]]
    have e2 : dT (colA n rs c) bs i (rhsQ rs) = sm (fun k => rhsQ rs k * dt ((cols (colA n rs c) bs).set i (Go.Det.unit k))) (rs.length + 2) := by
      unfold dT
      conv => lhs; rw [e]
      exact dt_set_comb (by rw [cols_len]; omega) _ _ _
    rw [e2]
    refine sm_natAbs fun k _ => ?_
    rw [Int.natAbs_mul]
    refine Nat.mul_le_mul ?_ (dtb _ (by rw [List.length_set, cols_len]; exact hl) fun x hx i => ?_)
    · unfold rhsQ
      split
      · rename_i h2; exact h.bb _ (rs_mem h2)
      · decide
    · rcases mem_set_or hx with h3 | h3
      · exact cols_bd h h3 i
      · rw [h3]; unfold Go.Det.unit; split <;> decide
  · refine Nat.le_trans (dtb _ (by rw [List.length_set, cols_len]; exact hl) fun x hx i => ?_) ?_
    · rcases mem_set_or hx with h3 | h3
      · exact cols_bd h h3 i
      · rw [h3]; exact colA_bd h v i
    · exact Nat.le_trans (Nat.le_mul_of_pos_left _ (by decide)) (Nat.le_mul_of_pos_left _ (by omega))
theorem sgn_le1 (d : Int) : d.sign.natAbs ≤ 1 := by rw [Int.natAbs_sign]; split <;> omega
theorem tt_Kt (h : LpOk n rs c) {i : Nat} {x : Vec} (hl : bs.length = rs.length + 2) (hi : i < rs.length + 2) (hx2 : x = rhsQ rs ∨ ∃ v, x = colA n rs c v) : (tt (colA n rs c) bs i x).natAbs ≤ Kt rs.length := by
  unfold tt
  rw [Int.natAbs_mul]
  have h1 := Nat.mul_le_mul (sgn_le1 (dD (colA n rs c) bs)) (dT_Kt h hl hi hx2)
  omega
theorem den_Kt (h : LpOk n rs c) (hP : Ph n rs c W T bs) : (Go.Det.den (colA n rs c) bs).natAbs ≤ Kt rs.length := by
  have := tt_Kt h (i := rs.length) hP.bas.len (by omega) (.inr ⟨bs.getD rs.length 0, rfl⟩)
  rwa [tt_own hP.bas.len (by omega)] at this
theorem vx_Kt (h : LpOk n rs c) (hP : Ph n rs c W T bs) {x : Vec} (hx2 : x = rhsQ rs ∨ ∃ v, x = colA n rs c v) (v : Nat) : (vx n rs c bs x v).natAbs ≤ Kt rs.length := by
  by_cases hb : ∃ k, k < rs.length ∧ bs.getD k 0 = v
  · obtain ⟨k, hk, rfl⟩ := hb
    rw [vx_row hP hk]; exact tt_Kt h hP.bas.len (by omega) hx2
  · rw [vx_out fun k hk e => hb ⟨k, hk, e⟩]; exact Nat.zero_le _
theorem lp_sol (hL : LpOk n rs c) : ∃ T E F s, SolRun n rs c T E F s ∧ Sol n rs c (ocOf n rs.length T E F s) := by
  have hS := lp_sys hL
  let T : Tv := ⟨.slice none 0 0, .slice none 0 0, .slice none 0 0, List.replicate (rs.length + 1) default, (rs.map fun r => lnOf n r.cs r.b) ++ [lnOf n (c.map fun x => -x) 0], rng n rs.length, rng 0 n, 1⟩
  have hB : Beg n rs c T := ⟨rfl, rfl, rfl, rfl, by show (List.replicate _ _).length = _; simp [T]⟩
  have hbl : T.bas.length = rs.length := by rw [hB.bas, rng_len]
  have hcl : T.col.length = n := by rw [hB.col, rng_len]
  obtain ⟨E, hst, hE⟩ := hB.start hL
  generalize T = T at *
  have second : ∀ P bs, Ph n rs c (n + rs.length) P bs → P.rows.length = rs.length + 1 → P.col.length = n → stOut T E ((n + rs.length : Nat) : Int) = P → stRes T E = true →
      ∃ F s, SolRun n rs c T E F s ∧ Sol n rs c (ocOf n rs.length T E F s) := by
    intro P bs hP hPr hPc hout hres
    obtain ⟨k, F, s, bf, hR, hG, hEn, hr, hj⟩ := hP.good.ends hS (g := rs.length) (Nat.le_refl _) (by rw [hPr]; omega) (hP.small (Nat.le_refl _))
    have hF : Ph n rs c (n + rs.length) F bf := ⟨hG, by rw [hj _ (Nat.le_refl _)]; exact hP.z, by rw [hj _ (by omega)]; exact hP.w⟩
    have hV := hG.view
    have hlen := hR.lens
    have hcol : ∀ i, 0 ≤ F.col.getD i 0 := hV.colv
    have hbas : ∀ i, 0 ≤ F.bas.getD i 0 := fun i => by
      by_cases h1 : i < rs.length
      · rw [hV.basv i h1]; omega
      · rw [getD_ge (by rw [hV.basl]; omega)]; exact Int.le_refl _
    have hpt : (ptS F n F.bas.length).map ofQ = ptl n (vx n rs c bf (rhsQ rs)) (Go.Det.den (colA n rs c) bf) := by
      rw [list_range (ptS_len F n _) (fun v hv => hF.pt_at hv), List.map_map]; rfl
    have hpo := hF.point
    have hdK := den_Kt hL hF
    have hvK := fun v => vx_Kt hL hF (.inl rfl) v
    rcases hEn with ⟨hs, h1⟩ | ⟨e, hs, he, h1, h2⟩
    · refine ⟨F, s, ⟨hB, hst, fun h => (by rw [hres] at h; cases h), fun _ => ⟨k, by rw [hout]; exact hR⟩, fun _ => ⟨by rw [hr, hPr], hcol, hbas, by rw [hs]; omega, by rw [hs]; decide⟩⟩, ?_⟩
      have hdu := hF.dual h1
      have e1 : ocOf n rs.length T E F s = ⟨1, ofQ (shq (F.at rs.length F.col.length) F.den), (ptS F n F.bas.length).map ofQ, [], (duS F n rs.length rs.length F.col.length).map ofQ⟩ := by
        unfold ocOf; rw [if_neg (by rw [hres]; decide), if_neg (by rw [hs]; decide)]
      have hdl : (duS F n rs.length rs.length F.col.length).map ofQ = ptl rs.length (yx n rs c bf rs.length) (Go.Det.den (colA n rs c) bf) := by
        rw [list_range (duS_len F n rs.length rs.length _) (fun i hi => hF.du_at (Nat.le_refl _) (Nat.le_refl _) (by rw [hr, hPr]; omega) hi), List.map_map]; rfl
      rw [e1, hpt, hdl, hV.rhs rs.length (by rw [hr, hPr]; omega), hV.den]
      exact .opt _ _ _ _ hpo.1 hpo.2 hdu.1 hdu.2 hdK (fun v _ => hvK v) (fun i _ => tt_Kt hL hF.bas.len (by omega) (.inr ⟨_, rfl⟩)) (tt_Kt hL hF.bas.len (by omega) (.inl rfl))
    · refine ⟨F, s, ⟨hB, hst, fun h => (by rw [hres] at h; cases h), fun _ => ⟨k, by rw [hout]; exact hR⟩, fun _ => ⟨by rw [hr, hPr], hcol, hbas, by rw [hs]; omega, by rw [hs]; omega⟩⟩, ?_⟩
      have hcW := hG.cov.col e he
      have hcn := hcol e
      obtain ⟨v0, hv0⟩ : ∃ v0 : Nat, F.col.getD e 0 = v0 := ⟨(F.col.getD e 0).toNat, by omega⟩
      rw [hv0, Int.toNat_natCast] at h1 h2
      have hnb : ∀ k, k < rs.length → bf.getD k 0 ≠ v0 := fun k hk e2 => by have := hG.cov.dis e k he hk; omega
      have hra := hF.ray (s := v0) (by omega) hnb h1 h2
      have e1 : ocOf n rs.length T E F s = ⟨2, frz0, (ptS F n F.bas.length).map ofQ, (raS F n e F.bas.length).map ofQ, []⟩ := by
        unfold ocOf; rw [if_neg (by rw [hres]; decide), if_pos (by omega), hs, Int.toNat_natCast]
      have hrl : (raS F n e F.bas.length).map ofQ = ptl n (zx n rs c bf v0) (Go.Det.den (colA n rs c) bf) := by
        rw [list_range (raS_len F n e _) (fun v hv => hF.ra_at he hv0 hv), List.map_map]; rfl
      rw [e1, hpt, hrl]
      refine .unb _ _ _ hpo.1 hra hdK (fun v _ => hvK v) (fun v _ => ?_)
      have hb := vx_Kt hL hF (x := colA n rs c v0) (.inr ⟨_, rfl⟩) v
      unfold zx
      by_cases h3 : v = v0
      · rw [if_pos h3, h3, vx_out hnb, Int.sub_zero]; exact hdK
      · rw [if_neg h3]; omega
  cases hE with
  | keep hw h hc =>
    have hout : stOut T E ((n + rs.length : Nat) : Int) = T := by unfold stOut; rw [hbl, if_pos hw]
    have hres : stRes T E = true := by unfold stRes; rw [hbl, decide_eq_true hw]; rfl
    obtain ⟨F, s, h1, h2⟩ := second T _ h hB.len hc hout hres
    exact ⟨T, E, F, s, h1, h2⟩
  | none bs hw h hv ha =>
    have hres : stRes T E = false := by unfold stRes; rw [hbl, hcl, decide_eq_false (by omega), decide_eq_true ha]; rfl
    have hP := h.ph
    have hV := hP.good.view
    have e1 : ocOf n rs.length T E E 0 = ⟨3, frz0, [], [], (duS E n rs.length (rs.length + 1) E.col.length).map ofQ⟩ := by
      unfold ocOf; rw [if_pos hres]
    have hdl : (duS E n rs.length (rs.length + 1) E.col.length).map ofQ = ptl rs.length (yx n rs c bs (rs.length + 1)) (Go.Det.den (colA n rs c) bs) := by
      rw [list_range (duS_len E n rs.length (rs.length + 1) _) (fun i hi => hP.du_at (by omega) (by omega) (by rw [h.rows]; omega) hi), List.map_map]; rfl
    refine ⟨T, E, E, 0, ⟨hB, hst, fun _ => ⟨hV.gd hS hP.good.hl hP.good.few hP.good.thin, h.rows, hV.colv⟩, fun h1 => (by rw [hres] at h1; cases h1), fun h1 => (by rw [hres] at h1; cases h1)⟩, ?_⟩
    rw [e1, hdl]
    exact .emp _ _ (h.refu hv) (den_Kt hL hP) (fun i _ => tt_Kt hL hP.bas.len (by omega) (.inr ⟨_, rfl⟩))
  | some bs hw ha h hc hr =>
    have hout : stOut T E ((n + rs.length : Nat) : Int) = stE3 E rs.length n ((n + rs.length : Nat) : Int) := by unfold stOut; rw [hbl, hcl, if_neg (by omega), if_neg ha]
    have hres : stRes T E = true := by unfold stRes; rw [hbl, hcl, decide_eq_false ha]; simp
    obtain ⟨F, s, h1, h2⟩ := second _ _ h hr hc hout hres
    exact ⟨T, E, F, s, h1, h2⟩
theorem sm_mul_r (f : Nat → Int) (c : Int) (n : Nat) : sm (fun k => f k * c) n = sm f n * c := by
  rw [sm_congr (g := fun k => c * f k) fun k _ => Int.mul_comm _ _, sm_mul, Int.mul_comm]
theorem comb_swap (rs : List Rw) (X Y : Nat → Int) (n : Nat) : sm (fun j => sm (fun i => ca rs i j * Y i) rs.length * X j) n = sm (fun i => Y i * sm (fun j => ca rs i j * X j) n) rs.length := by
  rw [sm_congr (g := fun j => sm (fun i => ca rs i j * Y i * X j) rs.length) fun j _ => (sm_mul_r _ _ _).symm]
  rw [sm_swap (fun i j => ca rs i j * Y i * X j) rs.length n]
  exact sm_congr fun i _ => by
    rw [← sm_mul]
    exact sm_congr fun j _ => by grind
theorem weak {D D' : Int} {X Y : Nat → Int} (hX : Feas n rs D X) (hY : Dual n rs c D' Y) : D' * sm (fun j => c.getD j 0 * X j) n ≤ D * sm (fun i => cb rs i * Y i) rs.length := by
  have h1 : D' * sm (fun j => c.getD j 0 * X j) n ≤ sm (fun j => sm (fun i => ca rs i j * Y i) rs.length * X j) n := by
    rw [← sm_mul]
    refine sm_le fun j hj => ?_
    have := Int.mul_le_mul_of_nonneg_right (hY.col j hj) (hX.nn j hj)
    rw [← Int.mul_assoc]; exact this
  rw [comb_swap] at h1
  refine Int.le_trans h1 ?_
  rw [← sm_mul]
  refine sm_le fun i hi => ?_
  have := Int.mul_le_mul_of_nonneg_left (hX.row i hi) (hY.nn i hi)
  have e : Y i * (D * cb rs i) = D * (cb rs i * Y i) := by grind
  rw [← e]; exact this
theorem no_refu {D D' : Int} {X Y : Nat → Int} (hX : Feas n rs D X) (hY : Refu n rs D' Y) : False := by
  have h1 : 0 ≤ sm (fun j => sm (fun i => ca rs i j * Y i) rs.length * X j) n := sm_nonneg fun j hj => Int.mul_nonneg (hY.col j hj) (hX.nn j hj)
  rw [comb_swap] at h1
  have h2 : sm (fun i => Y i * sm (fun j => ca rs i j * X j) n) rs.length ≤ D * sm (fun i => cb rs i * Y i) rs.length := by
    rw [← sm_mul]
    refine sm_le fun i hi => ?_
    have := Int.mul_le_mul_of_nonneg_left (hX.row i hi) (hY.nn i hi)
    have e : Y i * (D * cb rs i) = D * (cb rs i * Y i) := by grind
    rw [← e]; exact this
  have h3 := Int.mul_neg_of_pos_of_neg hX.den hY.neg
  omega
theorem no_ray {D D' : Int} {Z Y : Nat → Int} (hZ : Ray n rs c D Z) (hY : Dual n rs c D' Y) : False := by
  have h1 : D' * sm (fun j => c.getD j 0 * Z j) n ≤ sm (fun j => sm (fun i => ca rs i j * Y i) rs.length * Z j) n := by
    rw [← sm_mul]
    refine sm_le fun j hj => ?_
    have := Int.mul_le_mul_of_nonneg_right (hY.col j hj) (hZ.nn j hj)
    rw [← Int.mul_assoc]; exact this
  rw [comb_swap] at h1
  have h2 : sm (fun i => Y i * sm (fun j => ca rs i j * Z j) n) rs.length ≤ sm (fun _ => 0) rs.length := sm_le fun i hi => Int.mul_nonpos_of_nonneg_of_nonpos (hY.nn i hi) (hZ.row i hi)
  rw [sm_zero (f := fun _ => 0) fun _ _ => rfl] at h2
  have h3 := Int.mul_pos hY.den hZ.goal
  omega
end
end Go.Proofs.YtdhmbgogmoaofaaGreat
namespace Go.Proofs.YtdhmbgogmoaofaaGreat
open Go.Own Go.Limbs Go.Det
structure F6 (f : Fr) : Prop where
  num : f.num < 1073741824 ^ 6
  den : f.den < 1073741824 ^ 6
  pos : 0 < f.den
  neg : f.neg = true → f.num ≠ 0
theorem F6.vf {f : Fr} (h : F6 f) : VF f := ⟨Nat.le_trans (limbs_length_le h.num) (by decide), Nat.le_trans (limbs_length_le h.den) (by decide), h.pos, h.neg⟩
structure F9 (f : Fr) : Prop where
  num : f.num < 1073741824 ^ 9
  den : f.den < 1073741824 ^ 9
  pos : 0 < f.den
  neg : f.neg = true → f.num ≠ 0
theorem F6.f9 {f : Fr} (h : F6 f) : F9 f := ⟨Nat.lt_trans h.num (by decide), Nat.lt_trans h.den (by decide), h.pos, h.neg⟩
theorem F9.vf {f : Fr} (h : F9 f) : VF f := ⟨Nat.le_trans (limbs_length_le h.num) (by decide), Nat.le_trans (limbs_length_le h.den) (by decide), h.pos, h.neg⟩
theorem mk_le (N : Int) (P : Nat) (hP : 0 < P) : (ofQ (mkRat N P)).num ≤ N.natAbs ∧ (ofQ (mkRat N P)).den ≤ P := by
  have h := redF_q (decide (N < 0)) N.natAbs P hP
  rw [sg_natAbs] at h
  rw [← h]
  exact ⟨Nat.div_le_self _ _, Nat.div_le_self _ _⟩
theorem prod_mk (c : Int) (f : Fr) (h : 0 < f.den) : (c : Rat) * qv f = mkRat (c * sg f.neg f.num) f.den := by
  have e : (c : Rat) = mkRat c 1 := (Rat.mkRat_one c).symm
  unfold qv
  rw [e, Rat.mkRat_mul_mkRat, Nat.one_mul]
theorem sg_abs (n : Bool) (a : Nat) : (sg n a).natAbs = a := natAbs_sg n a
theorem psum_mk (c : List Int) (xs : List Fr) (hc : ∀ i, (c.getD i 0).natAbs ≤ 9223372036854775808) : ∀ k, (∀ j, j < k → F9 (xs.getD j fr0)) → ∃ (N : Int) (P : Nat), 0 < P ∧ psum c xs k = mkRat N P ∧ P ≤ 1073741824 ^ (9 * k) ∧ N.natAbs ≤ k * (9223372036854775808 * 1073741824 ^ (9 * k))
  | 0, _ => ⟨0, 1, by decide, by simp [psum], by decide, by decide⟩
  | k + 1, hx => by
    obtain ⟨N, P, hP, he, hPb, hNb⟩ := psum_mk c xs hc k (fun j hj => hx j (by omega))
    have hf := hx k (by omega)
    generalize hff : xs.getD k fr0 = f at hf
    have hck := hc k
    have hpr := prod_mk (c.getD k 0) f hf.pos
    have hsg := sg_abs f.neg f.num
    have hn := hf.num
    have hd := hf.den
    have hd0 := hf.pos
    refine ⟨N * f.den + c.getD k 0 * sg f.neg f.num * P, P * f.den, Nat.mul_pos hP hf.pos, ?_, ?_, ?_⟩
    · simp only [psum]
      rw [he, hff, hpr, Rat.mkRat_add_mkRat _ _ (by omega) (by omega)]
    · rw [show 9 * (k + 1) = 9 * k + 9 by omega, Nat.pow_add]
      exact Nat.mul_le_mul hPb (by omega)
    · have e : 1073741824 ^ (9 * (k + 1)) = 1073741824 ^ (9 * k) * 1073741824 ^ 9 := by rw [show 9 * (k + 1) = 9 * k + 9 by omega, Nat.pow_add]
      rw [e]
      generalize 1073741824 ^ (9 * k) = Q at *
      have h1 : (N * f.den).natAbs ≤ k * (9223372036854775808 * Q) * 1073741824 ^ 9 := by
        rw [Int.natAbs_mul]; exact Nat.mul_le_mul hNb (by omega)
      have h2 : (c.getD k 0 * sg f.neg f.num * P).natAbs ≤ 9223372036854775808 * 1073741824 ^ 9 * Q := by
        rw [Int.natAbs_mul, Int.natAbs_mul, hsg]
        exact Nat.mul_le_mul (Nat.mul_le_mul hck (by omega)) hPb
      have h3 : (N * f.den + c.getD k 0 * sg f.neg f.num * P).natAbs ≤ (N * f.den).natAbs + (c.getD k 0 * sg f.neg f.num * P).natAbs := Int.natAbs_add_le _ _
      have e2 : (k + 1) * (9223372036854775808 * (Q * 1073741824 ^ 9)) = k * (9223372036854775808 * Q) * 1073741824 ^ 9 + 9223372036854775808 * 1073741824 ^ 9 * Q := by
        generalize (1073741824 : Nat) ^ 9 = R
        grind
      omega
theorem psum_sz (c : List Int) (xs : List Fr) (hc : ∀ i, (c.getD i 0).natAbs ≤ 9223372036854775808) {k : Nat} (hk : k ≤ 6) (hx : ∀ j, j < k → F9 (xs.getD j fr0)) :
    (limbs (ofQ (psum c xs k)).num).length ≤ 57 ∧ (limbs (ofQ (psum c xs k)).den).length ≤ 55 ∧ (k ≤ 5 → (limbs (ofQ (psum c xs k)).num).length ≤ 48 ∧ (limbs (ofQ (psum c xs k)).den).length ≤ 46) := by
  obtain ⟨N, P, hP, he, hPb, hNb⟩ := psum_mk c xs hc k hx
  have hm := mk_le N P hP
  rw [← he] at hm
  have p6 : ∀ a, k ≤ a → 1073741824 ^ (9 * k) ≤ 1073741824 ^ (9 * a) := fun a ha => Nat.pow_le_pow_right (by decide) (by omega)
  have nb : ∀ a, k ≤ a → N.natAbs ≤ a * (9223372036854775808 * 1073741824 ^ (9 * a)) := fun a ha => Nat.le_trans hNb (Nat.mul_le_mul ha (Nat.mul_le_mul_left _ (p6 a ha)))
  refine ⟨limbs_length_le (Nat.lt_of_le_of_lt (Nat.le_trans hm.1 (nb 6 hk)) (by decide)), limbs_length_le (Nat.lt_of_le_of_lt (Nat.le_trans hm.2 (Nat.le_trans hPb (p6 6 hk))) (by decide)), fun h5 => ⟨limbs_length_le (Nat.lt_of_le_of_lt (Nat.le_trans hm.1 (nb 5 h5)) (by decide)), limbs_length_le (Nat.lt_of_le_of_lt (Nat.le_trans hm.2 (Nat.le_trans hPb (p6 5 h5))) (by decide))⟩⟩
theorem vfit9 (c : List Int) (xs : List Fr) (hcl : c.length ≤ 1000) (hc : ∀ i, -9223372036854775808 ≤ c.getD i 0 ∧ c.getD i 0 ≤ 9223372036854775807) (hxl : xs.length ≤ 6) (hx : ∀ f ∈ xs, F9 f) : VFit c xs ∧ (limbs (ofQ (vsum c xs)).num).length ≤ 57 ∧ (limbs (ofQ (vsum c xs)).den).length ≤ 55 := by
  have hc' : ∀ i, (c.getD i 0).natAbs ≤ 9223372036854775808 := fun i => by have := hc i; omega
  have hx' : ∀ k, k < min c.length xs.length → F9 (xs.getD k fr0) := fun k hk => hx _ (getD_mem (by omega))
  have hp : ∀ k, k < min c.length xs.length → (limbs (ofQ ((c.getD k 0 : Rat) * qv (xs.getD k fr0))).num).length ≤ 12 ∧ (limbs (ofQ ((c.getD k 0 : Rat) * qv (xs.getD k fr0))).den).length ≤ 9 := fun k hk => by
    have hf := hx' k hk
    have hm := mk_le (c.getD k 0 * sg (xs.getD k fr0).neg (xs.getD k fr0).num) (xs.getD k fr0).den hf.pos
    rw [← prod_mk _ _ hf.pos] at hm
    have h1 : (c.getD k 0 * sg (xs.getD k fr0).neg (xs.getD k fr0).num).natAbs ≤ 9223372036854775808 * 1073741824 ^ 9 := by
      rw [Int.natAbs_mul, sg_abs]; exact Nat.mul_le_mul (hc' k) (Nat.le_of_lt hf.num)
    exact ⟨limbs_length_le (Nat.lt_of_le_of_lt (Nat.le_trans hm.1 h1) (by decide)), limbs_length_le (Nat.lt_of_le_of_lt hm.2 hf.den)⟩
  have hs : ∀ k, k < min c.length xs.length → (limbs (ofQ (psum c xs k)).num).length ≤ 48 ∧ (limbs (ofQ (psum c xs k)).den).length ≤ 46 := fun k hk => (psum_sz c xs hc' (by omega) (fun j hj => hx' j (by omega))).2.2 (by omega)
  have hv := psum_sz c xs hc' (k := min c.length xs.length) (by omega) hx'
  refine ⟨⟨hcl, by omega, hc, fun k hk => (hx' k hk).pos, fun k hk => ?_, fun k hk => ?_, fun k hk => ?_, fun k hk => ?_, fun k hk => ?_⟩, hv.1, hv.2.1⟩
  · have h1 : (limbs (ofQ (c.getD k 0 : Rat)).num).length ≤ 3 := limbs_length_le (Nat.lt_of_le_of_lt (show (ofQ (c.getD k 0 : Rat)).num ≤ 9223372036854775808 from hc' k) (by decide))
    have h2 := limbs_length_le (hx' k hk).num
    omega
  · have h2 := limbs_length_le (hx' k hk).den
    omega
  · have h1 := hp k hk; have h2 := hs k hk; omega
  · have h1 := hp k hk; have h2 := hs k hk; omega
  · have h1 := hp k hk; have h2 := hs k hk; omega
theorem sfit9 (n : Int) (rs : List Rw) (xs : List Fr) (hv : validR n rs = true) (hxl : xs.length ≤ 6) (hx : ∀ f ∈ xs, F9 f) : SFit rs xs := by
  obtain ⟨v1, v2, v3, v4⟩ := validR_spec hv
  have key : ∀ r ∈ rs, VFit r.cs xs ∧ (limbs (ofQ (vsum r.cs xs)).num).length ≤ 57 ∧ (limbs (ofQ (vsum r.cs xs)).den).length ≤ 55 := fun r hr => by
    obtain ⟨h1, h2, h3⟩ := v4 r hr
    refine vfit9 r.cs xs (by omega) (fun i => ?_) hxl hx
    rcases Nat.lt_or_ge i r.cs.length with h4 | h4
    · have := h2 _ (getD_mem (z := 0) h4); omega
    · rw [getD_ge h4]; decide
  exact ⟨fun r hr => (key r hr).1, fun r hr => by have := (key r hr).2.1; omega, fun r hr => by have := (key r hr).2.2; omega⟩
theorem sfit6 (n : Int) (rs : List Rw) (xs : List Fr) (hv : validR n rs = true) (hxl : xs.length ≤ 6) (hx : ∀ f ∈ xs, F6 f) : SFit rs xs := sfit9 n rs xs hv hxl fun f hf => (hx f hf).f9
theorem sol_opt {n : Nat} {rs : List Rw} {c : List Int} {O : Oc} (h : Sol n rs c O) {D1 D2 : Int} {X Y : Nat → Int} (hX : Feas n rs D1 X) (hY : Dual n rs c D2 Y) {v : Int} (e1 : sm (fun j => c.getD j 0 * X j) n = D1 * v) (e2 : sm (fun i => cb rs i * Y i) rs.length = D2 * v) : O.kind = 1 ∧ O.value = ofQ (v : Rat) := by
  cases h with
  | opt D X' Y' val hX' hv hY' hw b1 b2 b3 b4 =>
    refine ⟨rfl, ?_⟩
    have w1 := weak hX' hY
    have w2 := weak hX hY'
    rw [hv, e2] at w1
    rw [e1, hw] at w2
    have hD := hX'.den
    have d1 := hX.den
    have d2 := hY.den
    have h1 : val ≤ D * v := by
      have : D2 * val ≤ D2 * (D * v) := by rw [show D2 * (D * v) = D * (D2 * v) by grind]; exact w1
      exact Int.le_of_mul_le_mul_left this d2
    have h2 : D * v ≤ val := by
      have : D1 * (D * v) ≤ D1 * val := by rw [show D1 * (D * v) = D * (D1 * v) by grind]; exact w2
      exact Int.le_of_mul_le_mul_left this d1
    have h3 : val = D * v := by omega
    show ofQ (shq val D) = _
    rw [h3]
    unfold shq
    congr 1
    obtain ⟨d, rfl⟩ : ∃ d : Nat, D = d := ⟨D.toNat, by omega⟩
    rw [Int.natAbs_natCast, ← Rat.divInt_ofNat, show ((d : Int) * v) = (d : Int) * v from rfl]
    have := Rat.divInt_mul_left (n := v) (d := 1) (a := (d : Int)) (by omega)
    rw [Int.mul_one] at this
    rw [this, divInt_one]
  | unb D X' Z hX' hZ => exact (no_ray hZ hY).elim
  | emp D Y' hY' => exact (no_refu hX hY').elim
theorem sol_emp {n : Nat} {rs : List Rw} {c : List Int} {O : Oc} (h : Sol n rs c O) {D : Int} {Y : Nat → Int} (hY : Refu n rs D Y) : O.kind = 3 := by
  cases h with
  | opt D X' Y' val hX' => exact (no_refu hX' hY).elim
  | unb D X' Z hX' hZ => exact (no_refu hX' hY).elim
  | emp D Y' hY' => rfl
theorem lp_of {n : Int} {rs : List Rw} {c : List Int} (hv : validR n rs = true) (hc : okCoeffs n c = true) : ∃ N : Nat, n = N ∧ LpOk N rs c := by
  obtain ⟨v1, v2, v3, v4⟩ := validR_spec hv
  obtain ⟨N, rfl⟩ : ∃ N : Nat, n = N := ⟨n.toNat, by omega⟩
  have bdd : ∀ xs : List Int, (∀ y ∈ xs, y.natAbs ≤ 1048576) → ∀ i, (xs.getD i 0).natAbs ≤ 1048576 := fun xs hx i => by
    rcases Nat.lt_or_ge i xs.length with h | h
    · exact hx _ (getD_mem h)
    · rw [getD_ge h]; decide
  unfold okCoeffs at hc
  rw [Bool.and_eq_true] at hc
  have h1 := of_decide_eq_true hc.1
  have h2 : ∀ y ∈ c, y.natAbs ≤ 1048576 := fun y hy => by
    have h3 : c.any badC = false := by simpa using hc.2
    have h4 := List.any_eq_false.1 h3 y hy
    unfold badC at h4
    simp only [Bool.or_eq_true, decide_eq_true_eq, not_or] at h4
    omega
  exact ⟨N, rfl, ⟨by omega, v3, by omega, bdd c h2, fun r hr => by have := (v4 r hr).1; omega, fun r hr => bdd _ (v4 r hr).2.1, fun r hr => (v4 r hr).2.2⟩⟩
end Go.Proofs.YtdhmbgogmoaofaaGreat
namespace Go.Proofs.YtdhmbgogmoaofaaGreat
open Go.Own Go.Limbs Go.Det
theorem shq_eq {a b D E : Int} (hD : 0 < D) (hE : 0 < E) (h : D * b = E * a) : shq a D = shq b E := by
  unfold shq
  obtain ⟨d, rfl⟩ : ∃ d : Nat, D = d := ⟨D.toNat, by omega⟩
  obtain ⟨e, rfl⟩ : ∃ e : Nat, E = e := ⟨E.toNat, by omega⟩
  simp only [Int.natAbs_natCast]
  rw [Rat.mkRat_eq_iff (by omega) (by omega)]
  rw [Int.mul_comm a, ← h, Int.mul_comm]
end Go.Proofs.YtdhmbgogmoaofaaGreat
namespace Go.Proofs.YtdhmbgogmoaofaaGreat
open Go.Own Go.Limbs Go.Det
theorem shq_mul (a k D : Int) : shq (k * a) D = shq a D * (k : Rat) := by
  unfold shq
  rw [← Rat.mkRat_one k, Rat.mkRat_mul_mkRat, Nat.mul_one, Int.mul_comm]
theorem mkR_le {a b : Int} {d e : Nat} (hd : 0 < d) (he : 0 < e) (h : a * e ≤ b * d) : mkRat a d ≤ mkRat b e := by
  cases ep : mkRat a d with
  | mk' pn pd z1 c1 =>
    cases eq : mkRat b e with
    | mk' qn qd z2 c2 =>
      obtain ⟨m, hm, e1, e2⟩ := Rat.mkRat_num_den (by omega) ep
      obtain ⟨k, hk, e3, e4⟩ := Rat.mkRat_num_den (by omega) eq
      rw [Rat.le_iff]
      dsimp only
      subst e1 e2 e3 e4
      rw [Int.natCast_mul, Int.natCast_mul] at h
      have hmk : (0 : Int) < (m : Int) * k := by exact_mod_cast Nat.mul_pos (Nat.pos_of_ne_zero hm) (Nat.pos_of_ne_zero hk)
      refine Int.le_of_mul_le_mul_left ?_ hmk
      rw [show (m : Int) * k * (pn * qd) = pn * m * (qd * k) by grind, show (m : Int) * k * (qn * pd) = qn * k * (pd * m) by grind]
      exact h
theorem cmpQ_le {p q : Rat} (h : p ≤ q) : cmpQ p q ≤ 0 := by
  rw [Rat.le_iff] at h
  unfold cmpQ
  have := Int.sign_nonpos_iff.2 (show p.num * q.den - q.num * p.den ≤ 0 by omega)
  omega
end Go.Proofs.YtdhmbgogmoaofaaGreat
namespace Go.Proofs.YtdhmbgogmoaofaaGreat
open Go.Own Go.Limbs Go.Det
theorem shq_add (a b D : Int) : shq (a + b) D = shq a D + shq b D := by
  unfold shq
  rcases Nat.eq_zero_or_pos D.natAbs with h | h
  · rw [h, Rat.mkRat_zero, Rat.mkRat_zero, Rat.mkRat_zero, Rat.add_zero]
  · rw [Rat.mkRat_add_mkRat _ _ (by omega) (by omega), ← Int.add_mul, Rat.mkRat_mul_right (by omega)]
theorem ptl_at {n : Nat} {X : Nat → Int} {D : Int} {k : Nat} (h : k < n) : (ptl n X D).getD k fr0 = ofQ (shq (X k) D) := by
  unfold ptl
  simp [List.getD_eq_getElem?_getD, List.getElem?_map, h]
theorem ptl_len (n : Nat) (X : Nat → Int) (D : Int) : (ptl n X D).length = n := by simp [ptl]
theorem psum_ptl (c : List Int) (n : Nat) (X : Nat → Int) (D : Int) : ∀ k, k ≤ n → psum c (ptl n X D) k = shq (sm (fun j => c.getD j 0 * X j) k) D
  | 0, _ => by simp [psum, sm, shq_zero]
  | k + 1, h => by
    simp only [psum, sm]
    rw [psum_ptl c n X D k (by omega), ptl_at (by omega), qv_ofQ, shq_add, shq_mul, Rat.mul_comm]
theorem sm_tail (f : Nat → Int) {m n : Nat} (h : m ≤ n) (hz : ∀ k, m ≤ k → f k = 0) : sm f n = sm f m := by
  obtain ⟨k, rfl⟩ := Nat.le.dest h
  rw [sm_app, sm_zero (f := fun j => f (m + j)) fun j _ => hz _ (by omega), Int.add_zero]
theorem vsum_ptl (c : List Int) (n : Nat) (X : Nat → Int) (D : Int) (h : c.length ≤ n) : vsum c (ptl n X D) = shq (sm (fun j => c.getD j 0 * X j) n) D := by
  unfold vsum
  rw [ptl_len, Nat.min_eq_left h, psum_ptl c n X D _ h, sm_tail _ h fun k hk => by rw [getD_ge hk, Int.zero_mul]]
theorem cmpQ_neg {p q : Rat} : cmpQ p q < 0 ↔ p < q := by
  rw [Rat.lt_iff]
  unfold cmpQ
  rw [Int.sign_neg_iff]
  omega
theorem cmpQ_le_iff {p q : Rat} : cmpQ p q ≤ 0 ↔ p ≤ q := by
  rw [Rat.le_iff]
  unfold cmpQ
  rw [Int.sign_nonpos_iff]
  omega
theorem cmpQ_self (p : Rat) : cmpQ p p = 0 := by unfold cmpQ; rw [Int.sub_self]; rfl
theorem shq_le_int {a D b : Int} (hD : 0 < D) (h : a ≤ D * b) : shq a D ≤ (b : Rat) := by
  rw [← Rat.mkRat_one b]
  unfold shq
  exact mkR_le (by omega) (by omega) (by rw [show ((D.natAbs : Nat) : Int) = D by omega]; have := Int.mul_comm b D; omega)
theorem int_le_shq {a D b : Int} (hD : 0 < D) (h : D * b ≤ a) : (b : Rat) ≤ shq a D := by
  rw [← Rat.mkRat_one b]
  unfold shq
  exact mkR_le (by omega) (by omega) (by rw [show ((D.natAbs : Nat) : Int) = D by omega]; have := Int.mul_comm b D; omega)
theorem shq_num_sign {a D : Int} (hD : 0 < D) : (0 ≤ a → 0 ≤ (shq a D).num) ∧ (a < 0 → (shq a D).num < 0) ∧ (0 < a → 0 < (shq a D).num) := by
  have key : ∃ m : Nat, m ≠ 0 ∧ a = (shq a D).num * m := by
    unfold shq
    cases e : mkRat a D.natAbs with
    | mk' p d z c =>
      obtain ⟨m, hm, e1, e2⟩ := Rat.mkRat_num_den (by omega) e
      exact ⟨m, hm, e1⟩
  obtain ⟨m, hm, e⟩ := key
  have hm' : (0 : Int) < m := by omega
  generalize (shq a D).num = q at e
  subst e
  refine ⟨fun h => ?_, fun h => ?_, fun h => ?_⟩
  · exact Int.not_lt.1 fun h1 => by have := Int.mul_neg_of_neg_of_pos h1 hm'; omega
  · exact Int.not_le.1 fun h1 => by have := Int.mul_nonneg h1 (Int.le_of_lt hm'); omega
  · exact Int.not_le.1 fun h1 => by have := Int.mul_nonneg (Int.neg_nonneg_of_nonpos h1) (Int.le_of_lt hm'); rw [Int.neg_mul] at this; omega
end Go.Proofs.YtdhmbgogmoaofaaGreat
namespace Go.Proofs.YtdhmbgogmoaofaaGreat
open Go.Own Go.Limbs
attribute [local irreducible] St Ops Go.Own.Fin Ok
theorem take_map_succ {α β : Type} (f : α → β) (z : α) {xs : List α} {i : Nat} (h : i < xs.length) : (xs.take (i + 1)).map f = (xs.take i).map f ++ [f (xs.getD i z)] := by
  rw [List.take_succ_eq_append_getElem h, List.map_append]
  simp [List.getD_eq_getElem?_getD, List.getElem?_eq_getElem h]
end Go.Proofs.YtdhmbgogmoaofaaGreat
namespace Go.Proofs.YtdhmbgogmoaofaaGreat
open Go.Own Go.Limbs
attribute [local irreducible] St Ops Go.Own.Fin Ok
def frs (ms : List Int) : List CT := (ms.map fun m => frCs (tf m)).flatten
theorem frs_len (ms : List Int) : (frs ms).length = ms.length * 3 := by
  unfold frs
  rw [flatten_length (k := 3) (fun e he => by obtain ⟨m, _, rfl⟩ := List.mem_map.mp he; rfl)]; simp
theorem frs_snoc (ms : List Int) (m : Int) : frs (ms ++ [m]) = frs ms ++ frCs (tf m) := by simp [frs]
theorem frs_frozen (e : Nat) (ms : List Int) : (Ent.row e 3 (frs ms)).frozen (sliceT 3 (ms.map fun m => frCs (tf m))) :=
  ⟨_, rfl, fun e he => by obtain ⟨m, _, rfl⟩ := List.mem_map.mp he; rfl, by decide, rfl⟩
def col (rs : List Rw) (ys : List Int) (j : Nat) : Int := dot (rs.map fun r => r.cs.getD j 0) ys
def cols (rs : List Rw) (ys : List Int) (n : Nat) : List Int := (List.range n).map (col rs ys)
def bsum (rs : List Rw) (ys : List Int) : Int := dot (rs.map fun r => r.b) ys
def covB (os c : List Int) : Bool := decide (c.length ≤ os.length) && (List.range os.length).all fun j => decide (12 * c.getD j 0 ≤ os.getD j 0)
end Go.Proofs.YtdhmbgogmoaofaaGreat
namespace Go.Proofs.YtdhmbgogmoaofaaGreat
open Go.Own Go.Limbs
attribute [local irreducible] St Ops Go.Own.Fin Ok
def pruned (ys : List Int) : Nat → List Int
  | 0 => []
  | i + 1 => if ys.getD i 0 = 0 then pruned ys i else pruned ys i ++ [(i : Int)]
end Go.Proofs.YtdhmbgogmoaofaaGreat
namespace Go.Proofs.YtdhmbgogmoaofaaGreat
open Go.Own Go.Limbs
attribute [local irreducible] St Ops Go.Own.Fin Ok
structure SzQ (q : Rat) : Prop where
  n : (limbs (ofQ q).num).length ≤ 64
  d : (limbs (ofQ q).den).length ≤ 64
def colQ (rs : List Rw) (ys : List Fr) (j : Nat) : Rat := vsum (rs.map fun r => r.cs.getD j 0) ys
def bsQ (rs : List Rw) (ys : List Fr) : Rat := vsum (rs.map fun r => r.b) ys
def colsQ (rs : List Rw) (ys : List Fr) (n : Nat) : List Rat := (List.range n).map (colQ rs ys)
abbrev ratsC (qs : List Rat) : CT := .fr (sliceT 3 (qs.map fun q => frCs (ofQ q)))
def rts (qs : List Rat) : List CT := (qs.map fun q => frCs (ofQ q)).flatten
theorem rts_len (qs : List Rat) : (rts qs).length = qs.length * 3 := by
  unfold rts
  rw [flatten_length (k := 3) (fun e he => by obtain ⟨m, _, rfl⟩ := List.mem_map.mp he; rfl)]; simp
theorem rts_snoc (qs : List Rat) (q : Rat) : rts (qs ++ [q]) = rts qs ++ frCs (ofQ q) := by simp [rts]
theorem rts_frozen (e : Nat) (qs : List Rat) : (Ent.row e 3 (rts qs)).frozen (sliceT 3 (qs.map fun q => frCs (ofQ q))) :=
  ⟨_, rfl, fun e he => by obtain ⟨m, _, rfl⟩ := List.mem_map.mp he; rfl, by decide, rfl⟩
theorem rats_at {qs : List Rat} {j : Int} (h0 : 0 ≤ j) (h : j < (qs.length : Int)) : (qs.map fun q => frCs (ofQ q))[j.toNat]? = some (frCs (ofQ (qs.getD j.toNat 0))) := map_at (fun q => frCs (ofQ q)) 0 h0 h
structure Mul (n : Nat) (rs : List Rw) (ys : List Fr) : Prop where
  len : ys.length = rs.length
  vf : ∀ f ∈ ys, VF f
  nn : ∀ f ∈ ys, f.neg = false
  c : ∀ j, j < n → VFit (rs.map fun r => r.cs.getD j 0) ys ∧ SzQ (colQ rs ys j)
  b : VFit (rs.map fun r => r.b) ys ∧ SzQ (bsQ rs ys)
theorem SzQ.int {b : Int} (h : b.natAbs ≤ 4503599627370496) : SzQ (b : Rat) := ⟨by have := (int_lens h).1; omega, by have := (int_lens h).2; omega⟩
def covQ (os : List Rat) (c : List Int) : Bool := decide (c.length ≤ os.length) && (List.range os.length).all fun j => !decide (cmpQ (os.getD j 0) (c.getD j 0 : Rat) < 0)
end Go.Proofs.YtdhmbgogmoaofaaGreat
namespace Go.Proofs.YtdhmbgogmoaofaaGreat
open Go.Own Go.Limbs
attribute [local irreducible] St Ops Go.Own.Fin Ok
theorem VF.szq {q : Rat} (h : VF (ofQ q)) : SzQ q := ⟨h.1, h.2⟩
theorem SzQ.vf {q : Rat} (h : SzQ q) : VF (ofQ q) := VF.q q h.n h.d
theorem Mul.cols {n : Nat} {rs : List Rw} {ys : List Fr} (H : Mul n rs ys) : ∀ q ∈ colsQ rs ys n, SzQ q := fun q hq => by
  obtain ⟨j, hj, rfl⟩ := List.mem_map.1 hq
  exact (H.c j (List.mem_range.1 hj)).2
theorem colsQ_len (rs : List Rw) (ys : List Fr) (n : Nat) : (colsQ rs ys n).length = n := by simp [colsQ]
end Go.Proofs.YtdhmbgogmoaofaaGreat
namespace Go.Proofs.YtdhmbgogmoaofaaGreat
open Go.Own Go.Limbs
attribute [local irreducible] St Ops Go.Own.Fin Ok
theorem gorCombine : InGo Tryz.prog 47 := InGo.of Tryz.func47 (by kernel_rfl) (by kernel_rfl)
set_option maxHeartbeats 8000000 in
theorem rCombine_gen (n : Nat) (rs : List Rw) (ys : List Fr) (hv : validR n rs = true) (H : Mul n rs ys) :
    Ok Tryz.prog 47 [intC n, rowsC rs, fracsC ys] (.fr (tupT [ratsC (colsQ rs ys n), ratC (bsQ rs ys), intC 0])) := by
  obtain ⟨v1, v2, v3, v4⟩ := validR_spec hv
  have hV := rLValid_ok n rs (by omega) (fun r hr => by have := (v4 r hr).1; omega)
  rw [hv] at hV
  have hl := H.len
  have hP := Point_ok rs.length ys (by omega) H.vf
  rw [decide_eq_true (show (ys.length : Int) = (rs.length : Int) by omega), show ys.any (fun f => f.neg) = false from List.any_eq_false.2 fun f hf => by rw [H.nn f hf]; decide] at hP
  have hP : Ok Tryz.prog 66 [intC rs.length, fracsC ys] (boolC true) := hP
  refine Ok.enter Tryz.func47 rfl _ Tryz.ntmps47 rfl ?_
  intro S w
  (refine Qy (Qx fun K hK => ?_); refine Qv rfl rfl rfl ?_; refine Qd 0 rfl rfl (by with_reducible first | exact zvFrac) rfl rfl rfl ?_; refine Qv rfl rfl rfl ?_; refine Qj (hK _ _ (Qz (Qy (Qy ?_)))); clear hK K; refine Qx (fun K hK => ?_); refine Qq rfl rfl rfl ?_; refine Qq rfl rfl rfl ?_)
  refine QX gorLValid hV rfl rfl rfl rfl ?_
  (refine Qr rfl rfl rfl ?_; refine Qj (hK _ _ (Qz (Qs rfl (QU (Qz (Qy (Qy ?_))))))); clear hK K; refine Qx (fun K hK => ?_); refine Qq rfl rfl rfl ?_; refine Q4 rfl rfl (by with_reducible first | exact sFracs.und | exact sRows.und) (List.length_map ..) rfl ?_; refine Qq rfl rfl rfl ?_)
  refine QX goPoint hP rfl rfl rfl rfl ?_
  (refine Qr rfl rfl rfl ?_; refine Qj (hK _ _ (Qz (Qs rfl (QU (Qz (Qy ?_)))))); clear hK K; refine Qx (fun K hK => ?_); refine Qv rfl rfl rfl ?_; refine Qj (hK _ _ (Qz (Qy (Qy ?_)))); clear hK K; refine Qx (fun K hK => ?_); refine Qv rfl rfl rfl ?_; refine Qj (hK _ _ (Qz (Q2 ?_))); clear hK K)
  refine X4 9 1 38 3 rfl rfl rfl ?_
  refine Ql (α := Nat) (fun i => i ≤ n)
    (fun i => [(0, .ct (intC n)), (1, .ct (rowsC rs)), (2, .ct (fracsC ys)), (7, .own 0), (9, .own 1), (10, .ct (intC i))])
    (fun i => [(1, .row 38 3 (rts (colsQ rs ys i))), (0, .box 38 [.ex (.bool false), .ex (.slice none 0 0), .ex (.slice none 0 0)])]) (fun i => n - i) 0 (Nat.zero_le _) (by exact QZ rfl ⟨rfl, rfl, rfl, rfl, rfl, rfl, trivial⟩) ?_
  intro i hi
  (try dsimp only at hi ⊢)
  (refine Qy (Qy (Qx fun K hK => ?_)); refine Qq rfl rfl rfl ?_; refine Qq rfl rfl rfl ?_; refine Qw ilss rfl rfl rfl rfl ?_; refine Qj (hK _ _ (Qz ?_)); clear hK K)
  refine Q0 rfl (fun h => ?_) (fun h => ?_)
  · (refine QU (Qz (Qy (Q2 (Qy (Qx fun K hK => ?_))))); refine Qv rfl rfl rfl ?_; refine Qj (hK _ _ (Qz (Qy (Qy ?_)))); clear hK K; refine Qx (fun K hK => ?_); refine Qv rfl rfl rfl ?_; refine Qj (hK _ _ (Qz (Q2 ?_))); clear hK K)
    refine X4 11 2 3 1 rfl rfl rfl ?_
    refine Ql (α := Nat) (fun k => k ≤ rs.length)
      (fun k => [(0, .ct (intC n)), (1, .ct (rowsC rs)), (2, .ct (fracsC ys)), (7, .own 0), (9, .own 1), (10, .ct (intC i)), (11, .own 2), (12, .ct (intC k))])
      (fun k => [(2, .row 3 1 (ints ((rs.take k).map fun r => r.cs.getD i 0))), (1, .row 38 3 (rts (colsQ rs ys i))), (0, .box 38 [.ex (.bool false), .ex (.slice none 0 0), .ex (.slice none 0 0)])]) (fun k => rs.length - k) 0 (Nat.zero_le _) (by exact QZ rfl ⟨rfl, rfl, rfl, rfl, rfl, rfl, rfl, rfl, trivial⟩) ?_
    intro k hk
    (try dsimp only at hk ⊢)
    (refine Qy (Qy (Qx fun K hK => ?_)); refine Qq rfl rfl rfl ?_; refine Qq rfl rfl rfl ?_; refine Q4 rfl rfl (by with_reducible first | exact sFracs.und | exact sRows.und) (List.length_map ..) rfl ?_; refine Qw ilss rfl rfl rfl rfl ?_; refine Qj (hK _ _ (Qz ?_)); clear hK K)
    refine Q0 rfl (fun h2 => ?_) (fun h2 => ?_)
    · have e2 : (k : Int).toNat = k := Int.toNat_natCast k
      have e3 : (i : Int).toNat = i := Int.toNat_natCast i
      have hlt : k < rs.length := by omega
      (refine QU (Qz (Qy (Q2 (Qy (Qx fun K hK => ?_))))); refine Qv rfl rfl rfl ?_; refine Qj (hK _ _ (Qz (Qy (Qy ?_)))); clear hK K; refine Qx (fun K hK => ?_); refine Qq rfl rfl rfl ?_; refine Qq rfl rfl rfl ?_; refine Qq rfl rfl rfl ?_; refine Qf rfl rfl rfl (by with_reducible exact sRows) (by omega) (rows_at (by omega) (by omega)) rfl ?_; refine Xc rfl rfl (by with_reducible first | exact fF0 | exact fF1 | exact fF2 | exact fR0 | exact fR1) rfl ?_; refine Qm rfl rfl rfl (by with_reducible first | exact lInt | exact lNat | exact lBool | exact lInts) rfl ?_; refine Q4 rfl rfl (by with_reducible first | exact sNat.und | exact sInts.und) (List.length_map ..) rfl ?_; refine Qw ilss rfl rfl rfl rfl ?_; refine Qj (hK _ _ (Qz ?_)); clear hK K)
      rw [e2]
      skip
      refine Q0 rfl (fun h3 => ?_) (fun h3 => ?_)
      · (refine Qx (fun K hK => ?_); refine Qq rfl rfl rfl ?_; refine Qq rfl rfl rfl ?_; refine Qf rfl rfl rfl (by with_reducible exact sRows) (by omega) (rows_at (by omega) (by omega)) rfl ?_; refine Xc rfl rfl (by with_reducible first | exact fF0 | exact fF1 | exact fF2 | exact fR0 | exact fR1) rfl ?_; refine Qm rfl rfl rfl (by with_reducible first | exact lInt | exact lNat | exact lBool | exact lInts) rfl ?_; refine Qq rfl rfl rfl ?_)
        rw [e2]
        (refine Qf rfl rfl rfl (by with_reducible first | exact sNat | exact sInts) (by omega) (ints_at (by omega) (by omega)) rfl ?_; refine Qm rfl rfl rfl (by with_reducible first | exact lInt | exact lNat | exact lBool | exact lInts) rfl ?_; refine Qv rfl rfl rfl ?_; refine Qj (hK _ _ (Qz ?_)); clear hK K; refine Qx (fun K hK => ?_); refine Qq rfl rfl rfl ?_; refine Qq rfl rfl rfl ?_)
        rw [e3]
        skip
        refine Xx rfl rfl (by with_reducible exact sInts) rfl rfl rfl ?_
        refine Qh k (ints ((rs.take (k + 1)).map fun r => r.cs.getD i 0)) rfl rfl rfl rfl (by with_reducible exact sInts) (by simp [ints]; omega) rfl (by omega) (by omega) (by rw [take_map_succ (fun r : Rw => r.cs.getD i 0) rw0 hlt]; simp [ints]) rfl ?_
        (refine Qv rfl rfl rfl ?_; refine Qj (hK _ _ (Qz ?_)); clear hK K; refine Qx (fun K hK => ?_); refine Qq rfl rfl rfl ?_; refine Qw (iadd (by omega) (by omega)) rfl rfl rfl rfl ?_; refine Qv rfl rfl rfl ?_; refine Qj (hK _ _ (Q5 ?_)); clear hK K)
        refine Q8 (k + 1) (by omega) (by omega) (by exact QZ rfl ⟨rfl, rfl, rfl, rfl, rfl, rfl, rfl, by simp only [Int.natCast_add]; rfl, trivial⟩)
      · have ec : (rs.getD k rw0).cs.getD i 0 = 0 := getD_ge (by omega)
        (refine QU (Qz (Qx fun K hK => ?_)); refine Qq rfl rfl rfl ?_; refine Qq rfl rfl rfl ?_)
        refine Xx rfl rfl (by with_reducible exact sInts) rfl rfl rfl ?_
        refine Qh k (ints ((rs.take (k + 1)).map fun r => r.cs.getD i 0)) rfl rfl rfl rfl (by with_reducible exact sInts) (by simp [ints]; omega) rfl (by omega) (by omega) (by rw [take_map_succ (fun r : Rw => r.cs.getD i 0) rw0 hlt, ec]; simp [ints]) rfl ?_
        (refine Qv rfl rfl rfl ?_; refine Qj (hK _ _ (Qz ?_)); clear hK K; refine Qx (fun K hK => ?_); refine Qq rfl rfl rfl ?_; refine Qw (iadd (by omega) (by omega)) rfl rfl rfl rfl ?_; refine Qv rfl rfl rfl ?_; refine Qj (hK _ _ (Q5 ?_)); clear hK K)
        refine Q8 (k + 1) (by omega) (by omega) (by exact QZ rfl ⟨rfl, rfl, rfl, rfl, rfl, rfl, rfl, by simp only [Int.natCast_add]; rfl, trivial⟩)
    · have hk' : k = rs.length := by omega
      subst hk'
      rw [List.take_length]
      refine XW 2 _ rfl (ints_frozen _ _) noBor_sub ?_
      have hVi := rValue_gen _ ys (H.c i (by omega)).1
      (refine Qe (Qz (Qy (Qx fun K hK => ?_))); refine Qq rfl rfl rfl ?_; refine Qq rfl rfl rfl ?_)
      refine QX gorValue hVi rfl rfl rfl rfl ?_
      (refine Qq rfl rfl rfl ?_; refine QY rfl rfl rfl rfl ?_; refine QY rfl rfl rfl rfl ?_; refine Qd 2 rfl rfl (by with_reducible first | exact zvFrac) rfl rfl rfl ?_; refine Qa 3 rfl rfl rfl rfl rfl (by with_reducible exact szFrac) rfl rfl ?_; refine Qv rfl rfl rfl ?_; refine Qj (hK _ _ (Qz (Qy (Qy ?_)))); clear hK K; refine Qx (fun K hK => ?_); refine Qq rfl rfl rfl ?_; refine Qw ineq rfl rfl rfl rfl ?_; refine Qj (hK _ _ (Qz (Qs rfl (QU (Qz ?_))))); clear hK K; refine Qx (fun K hK => ?_); refine Qq rfl rfl rfl ?_; refine Qp (n := 3) rfl rfl rfl rfl rfl (by with_reducible exact lFrac) rfl ?_)
      refine Ops.litN (n := 3) rfl rfl (by with_reducible exact sFracs) rfl rfl (by decide) rfl ?_
      refine Qh i (rts (colsQ rs ys (i + 1))) rfl rfl rfl rfl (by with_reducible exact sFracs) (by rw [rts_len]; simp [colsQ]) rfl (by omega) (by omega) (by unfold colsQ; rw [List.range_succ, List.map_append]; exact rts_snoc _ _) rfl ?_
      (refine Qv rfl rfl rfl ?_; refine Qj (hK _ _ (Qz ?_)); clear hK K; refine Qx (fun K hK => ?_); refine Qq rfl rfl rfl ?_; refine Qw (iadd (by omega) (by omega)) rfl rfl rfl rfl ?_; refine Qv rfl rfl rfl ?_; refine Qj (hK _ _ (Q5 ?_)); clear hK K)
      refine XY 2 ?_
      refine Q8 (i + 1) (by omega) (by omega) (by exact QZ rfl ⟨rfl, rfl, rfl, rfl, rfl, by simp only [Int.natCast_add]; rfl, trivial⟩)
  · have hi' : i = n := by omega
    subst hi'
    refine XW 1 _ rfl (rts_frozen _ _) noBor_sub ?_
    (refine Qe (Qz (Qy (Qx fun K hK => ?_))); refine Qv rfl rfl rfl ?_; refine Qj (hK _ _ (Qz (Qy (Qy ?_)))); clear hK K; refine Qx (fun K hK => ?_); refine Qv rfl rfl rfl ?_; refine Qj (hK _ _ (Qz (Q2 ?_))); clear hK K)
    refine X4 16 2 3 1 rfl rfl rfl ?_
    refine Ql (α := Nat) (fun k => k ≤ rs.length)
      (fun k => [(1, .ct (rowsC rs)), (2, .ct (fracsC ys)), (7, .own 0), (9, .ct (ratsC (colsQ rs ys i))), (16, .own 2), (17, .ct (intC k))])
      (fun k => [(2, .row 3 1 (ints ((rs.take k).map fun r => r.b))), (0, .box 38 [.ex (.bool false), .ex (.slice none 0 0), .ex (.slice none 0 0)])]) (fun k => rs.length - k) 0 (Nat.zero_le _) (by exact QZ rfl ⟨rfl, rfl, rfl, rfl, rfl, rfl, trivial⟩) ?_
    intro k hk
    (try dsimp only at hk ⊢)
    (refine Qy (Qy (Qx fun K hK => ?_)); refine Qq rfl rfl rfl ?_; refine Qq rfl rfl rfl ?_; refine Q4 rfl rfl (by with_reducible first | exact sFracs.und | exact sRows.und) (List.length_map ..) rfl ?_; refine Qw ilss rfl rfl rfl rfl ?_; refine Qj (hK _ _ (Qz ?_)); clear hK K)
    refine Q0 rfl (fun h2 => ?_) (fun h2 => ?_)
    · have e2 : (k : Int).toNat = k := Int.toNat_natCast k
      have hlt : k < rs.length := by omega
      (refine QU (Qz (Qy (Q2 (Qx fun K hK => ?_)))); refine Qq rfl rfl rfl ?_; refine Qq rfl rfl rfl ?_; refine Qq rfl rfl rfl ?_; refine Qf rfl rfl rfl (by with_reducible exact sRows) (by omega) (rows_at (by omega) (by omega)) rfl ?_; refine Xc rfl rfl (by with_reducible first | exact fF0 | exact fF1 | exact fF2 | exact fR0 | exact fR1) rfl ?_; refine Qm rfl rfl rfl (by with_reducible first | exact lInt | exact lNat | exact lBool | exact lInts) rfl ?_)
      rw [e2]
      skip
      refine Xx rfl rfl (by with_reducible exact sInts) rfl rfl rfl ?_
      refine Qh k (ints ((rs.take (k + 1)).map fun r => r.b)) rfl rfl rfl rfl (by with_reducible exact sInts) (by simp [ints]; omega) rfl (by omega) (by omega) (by rw [take_map_succ (fun r : Rw => r.b) rw0 hlt]; simp [ints]) rfl ?_
      (refine Qv rfl rfl rfl ?_; refine Qj (hK _ _ (Qz ?_)); clear hK K; refine Qx (fun K hK => ?_); refine Qq rfl rfl rfl ?_; refine Qw (iadd (by omega) (by omega)) rfl rfl rfl rfl ?_; refine Qv rfl rfl rfl ?_; refine Qj (hK _ _ (Q5 ?_)); clear hK K)
      refine Q8 (k + 1) (by omega) (by omega) (by exact QZ rfl ⟨rfl, rfl, rfl, rfl, rfl, by simp only [Int.natCast_add]; rfl, trivial⟩)
    · have hk' : k = rs.length := by omega
      subst hk'
      rw [List.take_length]
      refine XW 2 _ rfl (ints_frozen _ _) noBor_sub ?_
      have hVb := rValue_gen _ ys H.b.1
      (refine Qe (Qz (Qy (Qx fun K hK => ?_))); refine Qq rfl rfl rfl ?_; refine Qq rfl rfl rfl ?_)
      refine QX gorValue hVb rfl rfl rfl rfl ?_
      (refine Qq rfl rfl rfl ?_; refine QY rfl rfl rfl rfl ?_; refine QY rfl rfl rfl rfl ?_; refine Qd 1 rfl rfl (by with_reducible first | exact zvFrac) rfl rfl rfl ?_; refine Qa 3 rfl rfl rfl rfl rfl (by with_reducible exact szFrac) rfl rfl ?_; refine Qv rfl rfl rfl ?_; refine Qj (hK _ _ (Qz (Qy (Qy ?_)))); clear hK K; refine Qx (fun K hK => ?_); refine Qq rfl rfl rfl ?_; refine Qw ineq rfl rfl rfl rfl ?_; refine Qj (hK _ _ (Qz (Qs rfl (QU (Qz (Qy ?_)))))); clear hK K)
      refine Xq (by with_reducible exact mixed) 3 (.p 0 (.p 2 (.f 1 (.a 3 (.p 4 .done))))) (by kernel_rfl) (fun K hK => ?_)
      (refine Qq rfl rfl rfl ?_; refine Qv rfl rfl rfl ?_; refine Qp (n := 3) rfl rfl rfl rfl rfl (by with_reducible exact lFrac) rfl ?_; refine Qa 3 rfl rfl rfl rfl rfl (by with_reducible exact szFrac) rfl rfl ?_; refine Qv rfl rfl rfl ?_; refine Qj (hK _ _ (Qz (Q3 ?_))); clear hK K)
      refine QK [_, _, _] rfl (QQ rfl (Qb (n := 3) rfl rfl (by with_reducible exact lFrac) rfl (QQ rfl Qu))) rfl rfl
theorem cmpQ_flip (p q : Rat) : 0 < cmpQ p q ↔ cmpQ q p < 0 := by
  unfold cmpQ
  rw [Int.sign_pos_iff, Int.sign_neg_iff]
  omega
theorem gorcovers : InGo Tryz.prog 110 := InGo.of Tryz.func110 (by kernel_rfl) (by kernel_rfl)
set_option maxHeartbeats 4000000 in
theorem rcovers_q (os : List Rat) (c : List Int) (hl : os.length ≤ 64) (hlc : c.length ≤ 64) (ho : ∀ y ∈ os, SzQ y) (hc : ∀ y ∈ c, y.natAbs ≤ 4503599627370496) : Ok Tryz.prog 110 [intsC c, ratsC os] (boolC (covQ os c)) := by
  refine Ok.enter Tryz.func110 rfl _ Tryz.ntmps110 rfl ?_
  intro S w
  (refine Qy (Qx fun K hK => ?_); refine Qv rfl rfl rfl ?_; refine Qj (hK _ _ (Qz (Qy (Qy ?_)))); clear hK K; refine Qx (fun K hK => ?_); refine Qq rfl rfl rfl ?_; refine Q4 rfl rfl (by with_reducible first | exact sNat.und | exact sInts.und) (List.length_map ..) rfl ?_; refine Qq rfl rfl rfl ?_; refine Q4 rfl rfl (by with_reducible first | exact sFracs.und | exact sRows.und) (List.length_map ..) rfl ?_; refine Qw igtr rfl rfl rfl rfl ?_; refine Qj (hK _ _ (Qz ?_)); clear hK K)
  refine Q0 rfl (fun h => ?_) (fun h => ?_)
  · (refine Qy (Qx fun K hK => ?_); refine Qv rfl rfl rfl ?_; refine Qj (hK _ _ (Qz (Q3 (QW ?_)))); clear hK K)
    refine QK [_] rfl (QQ rfl Qu) (by unfold covQ; rw [decide_eq_false (show ¬ c.length ≤ os.length by omega)]; rfl) rfl
  have hle : c.length ≤ os.length := by omega
  clear h
  (refine QU (Qz (Qy (Qy (Qx fun K hK => ?_)))); refine Qv rfl rfl rfl ?_; refine Qj (hK _ _ (Qz (Q2 ?_))); clear hK K)
  refine Ql (α := Nat) (fun i => i ≤ os.length ∧ ∀ j, j < i → ¬ cmpQ (os.getD j 0) (c.getD j 0 : Rat) < 0)
    (fun i => [(0, .ct (intsC c)), (1, .ct (ratsC os)), (5, .ct (intC i))]) (fun _ => []) (fun i => os.length - i) 0 ⟨Nat.zero_le _, fun j h => absurd h (Nat.not_lt_zero j)⟩ (by exact QZ rfl ⟨rfl, rfl, rfl, trivial⟩) ?_
  intro i ⟨hi, hj⟩
  dsimp only at hi hj ⊢
  (refine Qy (Qy (Qx fun K hK => ?_)); refine Qq rfl rfl rfl ?_; refine Qq rfl rfl rfl ?_; refine Q4 rfl rfl (by with_reducible first | exact sFracs.und | exact sRows.und) (List.length_map ..) rfl ?_; refine Qw ilss rfl rfl rfl rfl ?_; refine Qj (hK _ _ (Qz ?_)); clear hK K)
  refine Q0 rfl (fun h => ?_) (fun h => ?_)
  · have e2 : (i : Int).toNat = i := Int.toNat_natCast i
    have hlt : i < os.length := by omega
    have b0 := ho (os.getD i 0) (getD_mem hlt)
    have b1 : (c.getD i 0).natAbs ≤ 4503599627370496 := by
      rcases Nat.lt_or_ge i c.length with h | h
      · exact hc _ (getD_mem h)
      · rw [getD_ge h]; decide
    have hbad : 0 < cmpQ (c.getD i 0 : Rat) (os.getD i 0) → covQ os c = false := fun hgt => by
      unfold covQ
      rw [List.all_eq_false.mpr ⟨i, List.mem_range.mpr hlt, by rw [decide_eq_true ((cmpQ_flip _ _).1 hgt)]; decide⟩, Bool.and_false]
    have hgood : ¬ 0 < cmpQ (c.getD i 0 : Rat) (os.getD i 0) → ∀ j, j < i + 1 → ¬ cmpQ (os.getD j 0) (c.getD j 0 : Rat) < 0 := fun hng j hj' => by
      rcases Nat.lt_or_ge j i with h3 | h3
      · exact hj j h3
      · have : j = i := by omega
        rw [this]; exact fun h => hng ((cmpQ_flip _ _).2 h)
    have hW := Whole_ok (c.getD i 0) (by omega) (by omega)
    have i1 := SzQ.int b1
    have hC := rFCompare_q (c.getD i 0 : Rat) (os.getD i 0) (by have := i1.n; omega) (by have := i1.d; omega) (by have := b0.n; omega) (by have := b0.d; omega)
    generalize hci : c.getD i 0 = ci at *
    (refine QU (Qz (Qy (Q2 (Qy (Qx fun K hK => ?_))))); refine Qv rfl rfl rfl ?_; refine Qj (hK _ _ (Qz (Qy (Qy ?_)))); clear hK K; refine Qx (fun K hK => ?_); refine Qq rfl rfl rfl ?_; refine Qq rfl rfl rfl ?_; refine Q4 rfl rfl (by with_reducible first | exact sNat.und | exact sInts.und) (List.length_map ..) rfl ?_; refine Qw ilss rfl rfl rfl rfl ?_; refine Qj (hK _ _ (Qz ?_)); clear hK K)
    refine St.cutN (α := Unit) (fun _ => True) (fun _ => [(0, .ct (intsC c)), (1, .ct (ratsC os)), (5, .ct (intC i)), (6, .ct (intC ci))]) (fun _ => []) (fun _ _ => ?_) (fun KK hN => ?_)
    rotate_left
    · refine Q0 rfl (fun h3 => ?_) (fun h3 => ?_)
      · (refine Qx (fun K hK => ?_); refine Qq rfl rfl rfl ?_; refine Qq rfl rfl rfl ?_; refine Qf rfl rfl rfl (by with_reducible first | exact sNat | exact sInts) (by omega) (ints_at (by omega) (by omega)) rfl ?_; refine Qm rfl rfl rfl (by with_reducible first | exact lInt | exact lNat | exact lBool | exact lInts) rfl ?_; refine Qv rfl rfl rfl ?_; refine Qj (hK _ _ ?_); clear hK K)
        rw [e2, hci]
        skip
        exact XU hN () trivial (by exact QZ rfl ⟨rfl, rfl, rfl, rfl, trivial⟩)
      · have ec : ci = 0 := by rw [← hci]; exact getD_ge (by omega)
        subst ec
        (refine QU ?_)
        exact XU hN () trivial (by exact QZ rfl ⟨rfl, rfl, rfl, rfl, trivial⟩)
    clear hci
    (refine Qy ?_)
    refine Xq (by with_reducible exact mixed) 12 (.p 0 (.p 2 (.p 3 (.p 4 (.f 5 (.m 1 (.m 6 (.p 7 (.p 8 (.p 9 (.p 10 (.p 11 .done)))))))))))) (by kernel_rfl) (fun K hK => ?_)
    (refine Qq rfl rfl rfl ?_; refine Qq rfl rfl rfl ?_; refine Qq rfl rfl rfl ?_; refine Qf rfl rfl rfl (by with_reducible exact sFracs) (by omega) (rats_at (by omega) (by omega)) rfl ?_; refine X8 (n := 3) rfl rfl rfl (by with_reducible exact lFrac) rfl rfl ?_)
    rw [e2]
    skip
    refine QX goWhole hW rfl rfl rfl rfl ?_
    refine QX gorFCompareQ hC rfl rfl rfl rfl ?_
    (refine Qq rfl rfl rfl ?_; refine QY rfl rfl rfl rfl ?_; refine QY rfl rfl rfl rfl ?_; refine Qv rfl rfl rfl ?_; refine Qv rfl rfl rfl ?_; refine Qj (hK _ _ (Qz (Qy ?_))); clear hK K; refine Qx (fun K hK => ?_); refine Qq rfl rfl rfl ?_; refine Qw igtr rfl rfl rfl rfl ?_; refine Qj (hK _ _ (Qz ?_)); clear hK K)
    refine Q0 rfl (fun h4 => ?_) (fun h4 => ?_)
    · (refine Qy (Qx fun K hK => ?_); refine Qv rfl rfl rfl ?_; refine Qj (hK _ _ (Qz (Q3 (Q9 (QW (QW (Q9 (QW ?_)))))))); clear hK K)
      refine QK [_] rfl (QQ rfl Qu) (by rw [hbad h4]; rfl) rfl
    · (refine QU (Qz (Qx fun K hK => ?_)); refine Qq rfl rfl rfl ?_; refine Qw (iadd (by omega) (by omega)) rfl rfl rfl rfl ?_; refine Qv rfl rfl rfl ?_; refine Qj (hK _ _ (Q5 ?_)); clear hK K)
      refine Q8 (i + 1) (by omega) ⟨by omega, hgood h4⟩ (by exact QZ rfl ⟨rfl, rfl, by simp only [Int.natCast_add]; rfl, trivial⟩)
  · have hi' : i = os.length := by omega
    (refine Qe (Qz (Qy (Qx fun K hK => ?_))); refine Qv rfl rfl rfl ?_; refine Qj (hK _ _ (Qz (Q3 ?_))); clear hK K)
    refine QK [_] rfl (QQ rfl Qu) (by
      unfold covQ
      rw [decide_eq_true hle, List.all_eq_true.mpr (fun j hj2 => by rw [decide_eq_false (hj j (by have := List.mem_range.mp hj2; omega))]; rfl)]; rfl) rfl
theorem gorBounds : InGo Tryz.prog 54 := InGo.of Tryz.func54 (by kernel_rfl) (by kernel_rfl)
set_option maxHeartbeats 4000000 in
theorem rBounds_gen (n : Nat) (rs : List Rw) (c : List Int) (ys : List Fr) (most : Rat) (hv : validR n rs = true) (H : Mul n rs ys) (hlc : c.length ≤ 64) (hc : ∀ y ∈ c, y.natAbs ≤ 4503599627370496) (hm : SzQ most) :
    Ok Tryz.prog 54 [intC n, rowsC rs, intsC c, fracsC ys, ratC most] (boolC (covQ (colsQ rs ys n) c && !decide (cmpQ most (bsQ rs ys) < 0))) := by
  have h1 := rCombine_gen n rs ys hv H
  have h2 := rcovers_q (colsQ rs ys n) c (by rw [colsQ_len]; have := (validR_spec hv).2.1; omega) hlc H.cols hc
  have hb := H.b.2
  have h3 := rFCompare_q (bsQ rs ys) most (by have := hb.n; omega) (by have := hb.d; omega) (by have := hm.n; omega) (by have := hm.d; omega)
  have h4 := rFValid_V _ hm.vf
  have hcm : decide (cmpQ (bsQ rs ys) most ≤ 0) = !decide (cmpQ most (bsQ rs ys) < 0) := by
    by_cases h : cmpQ most (bsQ rs ys) < 0
    · have := (cmpQ_flip (bsQ rs ys) most).2 h
      rw [decide_eq_true h, decide_eq_false (by omega)]; rfl
    · have := mt (cmpQ_flip (bsQ rs ys) most).1 h
      rw [decide_eq_false h, decide_eq_true (by omega)]; rfl
  generalize colsQ rs ys n = os at *
  generalize bsQ rs ys = bs at *
  refine Ok.enter Tryz.func54 rfl _ Tryz.ntmps54 rfl ?_
  intro S w
  (refine Qy (Qx fun K hK => ?_); refine Qt 0 rfl rfl rfl rfl rfl rfl rfl ?_; refine Qv rfl rfl rfl ?_; refine Qj (hK _ _ (Qz (Qy ?_))); clear hK K; refine Qx (fun K hK => ?_); refine Qq rfl rfl rfl ?_; refine Qq rfl rfl rfl ?_; refine Qq rfl rfl rfl ?_)
  refine QX gorCombine h1 rfl rfl rfl rfl ?_
  (refine Qq rfl rfl rfl ?_; refine QY rfl rfl rfl rfl ?_; refine QY rfl rfl rfl rfl ?_; refine QY rfl rfl rfl rfl ?_; refine Qd 1 rfl rfl (by with_reducible first | exact zvFrac) rfl rfl rfl ?_; refine Qv rfl rfl rfl ?_; refine Qa 3 rfl rfl rfl rfl rfl (by with_reducible exact szFrac) rfl rfl ?_; refine Qv rfl rfl rfl ?_; refine Qj (hK _ _ (Qz (Qy (Qy ?_)))); clear hK K; refine Qx (fun K hK => ?_); refine Qq rfl rfl rfl ?_; refine Qw ineq rfl rfl rfl rfl ?_; refine Qq rfl rfl rfl ?_; refine Qq rfl rfl rfl ?_; refine Qq rfl rfl rfl ?_)
  refine QX gorcovers h2 rfl rfl rfl rfl ?_
  (refine Qr rfl rfl rfl ?_; refine Q6 rfl rfl rfl rfl ?_; refine Qq rfl rfl rfl ?_)
  refine XJ 32 rfl (fun h => ?_) (fun h => ?_)
  · have hcv : covQ os c = false := by simpa using h
    (refine Qk rfl rfl rfl ?_; refine Qk rfl rfl rfl ?_; refine Qk rfl rfl rfl ?_; refine Q7 rfl rfl rfl rfl ?_; refine Qj (hK _ _ (Qz (Xk rfl (Qy ?_)))); clear hK K; refine Qx (fun K hK => ?_); refine Qv rfl rfl rfl ?_; refine Qj (hK _ _ (Qz (Q3 (QW ?_)))); clear hK K)
    refine QK [_] rfl (QQ rfl Qu) (by rw [hcv]; rfl) rfl
  · have hcv : covQ os c = true := by simpa using h
    (refine Qp (n := 3) rfl rfl rfl rfl rfl (by with_reducible exact lFrac) rfl ?_)
    refine QX gorFValid h4 rfl rfl rfl rfl ?_
    (refine Qr rfl rfl rfl ?_; refine Q6 rfl rfl rfl rfl ?_; refine Qj (hK _ _ (Qz (Qs rfl (QU (Qz (Qy ?_)))))); clear hK K; refine Qx (fun K hK => ?_); refine Qp (n := 3) rfl rfl rfl rfl rfl (by with_reducible exact lFrac) rfl ?_; refine Qp (n := 3) rfl rfl rfl rfl rfl (by with_reducible exact lFrac) rfl ?_)
    refine QX gorFCompareQ h3 rfl rfl rfl rfl ?_
    (refine Qq rfl rfl rfl ?_; refine QY rfl rfl rfl rfl ?_; refine QY rfl rfl rfl rfl ?_; refine Qv rfl rfl rfl ?_; refine Qv rfl rfl rfl ?_; refine Qj (hK _ _ (Qz (Qy ?_))); clear hK K; refine Qx (fun K hK => ?_); refine Qq rfl rfl rfl ?_; refine Qw ileq rfl rfl rfl rfl ?_; refine Qv rfl rfl rfl ?_; refine Qj (hK _ _ (Qz (Q3 ?_))); clear hK K)
    refine QK [_] rfl (QQ rfl Qu) (by rw [hcv, ← hcm]; rfl) rfl
theorem gorRefutes : InGo Tryz.prog 50 := InGo.of Tryz.func50 (by kernel_rfl) (by kernel_rfl)
theorem sgnF_q (q : Rat) : sgnF (ofQ q) = q.num.sign := by
  have e2 : (ofQ q).num = q.num.natAbs := rfl
  have e1 : (ofQ q).neg = decide (q.num < 0) := rfl
  unfold sgnF
  rw [e1, e2]
  generalize q.num = z
  rcases Int.lt_trichotomy z 0 with h1 | h1 | h1
  · rw [if_neg (by omega), if_pos (decide_eq_true h1), Int.sign_eq_neg_one_of_neg h1]
  · subst h1; rfl
  · rw [if_neg (by omega), if_neg (by rw [decide_eq_true_eq]; omega), Int.sign_eq_one_of_pos h1]
set_option maxHeartbeats 4000000 in
theorem rRefutes_gen (n : Nat) (rs : List Rw) (ys : List Fr) (hv : validR n rs = true) (H : Mul n rs ys) :
    Ok Tryz.prog 50 [intC n, rowsC rs, fracsC ys] (boolC (decide ((bsQ rs ys).num < 0) && covQ (colsQ rs ys n) [])) := by
  have h1 := rCombine_gen n rs ys hv H
  have h2 := (rcovers_q (colsQ rs ys n) [] (by rw [colsQ_len]; have := (validR_spec hv).2.1; omega) (by simp) H.cols (fun y h => by cases h)).weak (As' := [.ex (.slice none 0 0), _]) ⟨w_nil, w_same, trivial⟩
  have h3 := Sign_ok (ofQ (bsQ rs ys))
  rw [sgnF_q] at h3
  have hs : decide ((bsQ rs ys).num.sign < 0) = decide ((bsQ rs ys).num < 0) := decide_eq_decide.2 Int.sign_neg_iff
  rw [← hs]
  generalize (bsQ rs ys).num.sign = sg0 at *
  generalize colsQ rs ys n = os at *
  refine Ok.enter Tryz.func50 rfl _ Tryz.ntmps50 rfl ?_
  intro S w
  (refine Qy (Qx fun K hK => ?_); refine Qv rfl rfl rfl ?_; refine Qj (hK _ _ (Qz (Qy ?_))); clear hK K; refine Qx (fun K hK => ?_); refine Qq rfl rfl rfl ?_; refine Qq rfl rfl rfl ?_; refine Qq rfl rfl rfl ?_)
  refine QX gorCombine h1 rfl rfl rfl rfl ?_
  (refine Qq rfl rfl rfl ?_; refine QY rfl rfl rfl rfl ?_; refine QY rfl rfl rfl rfl ?_; refine QY rfl rfl rfl rfl ?_; refine Qd 0 rfl rfl (by with_reducible first | exact zvFrac) rfl rfl rfl ?_; refine Qv rfl rfl rfl ?_; refine Qa 3 rfl rfl rfl rfl rfl (by with_reducible exact szFrac) rfl rfl ?_; refine Qv rfl rfl rfl ?_; refine Qj (hK _ _ (Qz (Qy ?_))); clear hK K; refine Qx (fun K hK => ?_); refine Qq rfl rfl rfl ?_; refine Qw ieql rfl rfl rfl rfl ?_; refine Qq rfl rfl rfl ?_; refine Qq rfl rfl rfl ?_)
  refine QX gorcovers h2 rfl rfl rfl rfl ?_
  (refine Q7 rfl rfl rfl rfl ?_; refine Qq rfl rfl rfl ?_)
  refine XJ 24 rfl (fun h => ?_) (fun h => ?_)
  · (refine Qp (n := 3) rfl rfl rfl rfl rfl (by with_reducible exact lFrac) rfl ?_)
    refine QX goSign h3 rfl rfl rfl rfl ?_
    (refine Qw ilss rfl rfl rfl rfl ?_; refine Q7 rfl rfl rfl rfl ?_; refine Qv rfl rfl rfl ?_; refine Qj (hK _ _ (Qz (Q3 ?_))); clear hK K)
    refine QK [_] rfl (QQ rfl Qu) (by rw [h, Bool.and_true]; rfl) rfl
  · (refine Qk rfl rfl rfl ?_; refine Qk rfl rfl rfl ?_; refine Qk rfl rfl rfl ?_; refine Q6 rfl rfl rfl rfl ?_; refine Qv rfl rfl rfl ?_; refine Qj (hK _ _ (Qz (Q3 ?_))); clear hK K)
    refine QK [_] rfl (QQ rfl Qu) (by rw [h, Bool.and_false]; rfl) rfl
end Go.Proofs.YtdhmbgogmoaofaaGreat
namespace Go.Proofs.YtdhmbgogmoaofaaGreat
open Go.Own Go.Limbs
attribute [local irreducible] St Ops Go.Own.Fin Ok
def growB (rs : List Rw) (c : List Int) (ray : List Fr) : Bool := rs.all (fun r => !decide (0 < (vsum r.cs ray).num)) && decide (0 < (vsum c ray).num)
end Go.Proofs.YtdhmbgogmoaofaaGreat
namespace Go.Proofs.YtdhmbgogmoaofaaGreat
open Go.Own Go.Limbs Go.Det
theorem ptl_mem {n : Nat} {X : Nat → Int} {D : Int} {f : Fr} (h : f ∈ ptl n X D) : ∃ k, k < n ∧ f = ofQ (shq (X k) D) := by
  obtain ⟨k, hk, rfl⟩ := List.mem_map.1 h
  exact ⟨k, List.mem_range.1 hk, rfl⟩
theorem ofQ_neg0 {q : Rat} (h : 0 ≤ q.num) : (ofQ q).neg = false := decide_eq_false (by omega)
theorem Kt9 {m : Nat} (h : m ≤ 6) : Kt m < 1073741824 ^ 9 := by
  have : m = 0 ∨ m = 1 ∨ m = 2 ∨ m = 3 ∨ m = 4 ∨ m = 5 ∨ m = 6 := by omega
  rcases this with rfl | rfl | rfl | rfl | rfl | rfl | rfl <;> decide +kernel
theorem F9.shq {a D : Int} {m : Nat} (hm : m ≤ 6) (hD : 0 < D) (h1 : D.natAbs ≤ Kt m) (h2 : a.natAbs ≤ Kt m) : F9 (ofQ (shq a D)) := by
  obtain ⟨l1, l2⟩ := mk_le a D.natAbs (by omega)
  have := Kt9 hm
  exact ⟨Nat.lt_of_le_of_lt l1 (by omega), Nat.lt_of_le_of_lt l2 (by omega), ofQ_den _, fun h => by
    have : (Go.Proofs.YtdhmbgogmoaofaaGreat.shq a D).num < 0 := of_decide_eq_true h
    show (Go.Proofs.YtdhmbgogmoaofaaGreat.shq a D).num.natAbs ≠ 0
    omega⟩
section
variable {n : Nat} {rs : List Rw} {D : Int} {X : Nat → Int}
theorem ptl_F9 {k m : Nat} (hm : m ≤ 6) (hD : 0 < D) (b1 : D.natAbs ≤ Kt m) (b2 : ∀ v, v < k → (X v).natAbs ≤ Kt m) : ∀ f ∈ ptl k X D, F9 f := fun f hf => by
  obtain ⟨v, hv, rfl⟩ := ptl_mem hf
  exact F9.shq hm hD b1 (b2 v hv)
theorem ptl_nn {k : Nat} (hD : 0 < D) (h : ∀ v, v < k → 0 ≤ X v) : ∀ f ∈ ptl k X D, f.neg = false := fun f hf => by
  obtain ⟨v, hv, rfl⟩ := ptl_mem hf
  exact ofQ_neg0 ((shq_num_sign hD).1 (h v hv))
theorem sat_ptl (hv : validR n rs = true) (hX : Feas n rs D X) : satB n rs (ptl n X D) = true := by
  obtain ⟨v1, v2, v3, v4⟩ := validR_spec hv
  unfold satB
  rw [hv, ptl_len, decide_eq_true rfl, List.any_eq_false.2 fun f hf => by rw [ptl_nn hX.den hX.nn f hf]; decide, List.all_eq_true.2 fun r hr => ?_]
  · rfl
  · obtain ⟨i, hi, rfl⟩ := List.getElem_of_mem hr
    have e : rs.getD i rw0 = rs[i] := by simp [List.getD_eq_getElem?_getD, List.getElem?_eq_getElem hi]
    have h1 := hX.row i hi
    unfold ca cb at h1
    rw [e] at h1
    rw [decide_eq_true_eq, cmpQ_le_iff, vsum_ptl _ _ _ _ (by have := (v4 _ hr).1; omega)]
    exact shq_le_int hX.den h1
theorem mul_ptl {Y : Nat → Int} (hv : validR n rs = true) (hl : rs.length ≤ 6) (hD : 0 < D) (h : ∀ i, i < rs.length → 0 ≤ Y i) (b1 : D.natAbs ≤ Kt rs.length) (b2 : ∀ i, i < rs.length → (Y i).natAbs ≤ Kt rs.length) : Mul n rs (ptl rs.length Y D) := by
  obtain ⟨v1, v2, v3, v4⟩ := validR_spec hv
  have hF := ptl_F9 (k := rs.length) hl hD b1 b2
  have key : ∀ num : Rw → Int, (∀ r ∈ rs, (num r).natAbs ≤ 4503599627370496) → VFit (rs.map num) (ptl rs.length Y D) ∧ SzQ (vsum (rs.map num) (ptl rs.length Y D)) := fun num hn => by
    obtain ⟨a1, a2, a3⟩ := vfit9 (rs.map num) (ptl rs.length Y D) (by rw [List.length_map]; omega) (fun i => by
      rcases Nat.lt_or_ge i (rs.map num).length with h4 | h4
      · obtain ⟨r, hr, e⟩ := List.mem_map.1 (getD_mem (z := (0 : Int)) h4)
        have := hn r hr
        rw [← e]; omega
      · rw [getD_ge h4]; decide) (by rw [ptl_len]; omega) hF
    exact ⟨a1, ⟨by omega, by omega⟩⟩
  refine ⟨ptl_len .., fun f hf => (hF f hf).vf, ptl_nn hD h, fun j hj => key _ fun r hr => ?_, key _ fun r hr => (v4 r hr).2.2⟩
  rcases Nat.lt_or_ge j r.cs.length with h4 | h4
  · have := (v4 r hr).2.1 _ (getD_mem (z := (0 : Int)) h4); omega
  · rw [getD_ge h4]; decide
theorem getD_mapZ {α : Type} (f : α → Int) (z : α) {xs : List α} {k : Nat} (h : k < xs.length) : (xs.map f).getD k 0 = f (xs.getD k z) := by
  simp [List.getD_eq_getElem?_getD, List.getElem?_map, List.getElem?_eq_getElem h]
theorem colQ_ptl {Y : Nat → Int} (j : Nat) : colQ rs (ptl rs.length Y D) j = shq (sm (fun i => ca rs i j * Y i) rs.length) D := by
  unfold colQ
  rw [vsum_ptl _ _ _ _ (by simp)]
  congr 1
  exact sm_congr fun i hi => by rw [getD_mapZ (fun r => r.cs.getD j 0) rw0 hi]; rfl
theorem bsQ_ptl {Y : Nat → Int} : bsQ rs (ptl rs.length Y D) = shq (sm (fun i => cb rs i * Y i) rs.length) D := by
  unfold bsQ
  rw [vsum_ptl _ _ _ _ (by simp)]
  congr 1
  exact sm_congr fun i hi => by rw [getD_mapZ (fun r => r.b) rw0 hi]; rfl
theorem cov_ptl {Y : Nat → Int} (c : List Int) (hD : 0 < D) (hc : c.length ≤ n) (h : ∀ j, j < n → D * c.getD j 0 ≤ sm (fun i => ca rs i j * Y i) rs.length) : covQ (colsQ rs (ptl rs.length Y D) n) c = true := by
  have hl : (colsQ rs (ptl rs.length Y D) n).length = n := by simp [colsQ]
  unfold covQ
  rw [hl, decide_eq_true hc, List.all_eq_true.2 fun j hj => ?_]
  · rfl
  · have hj := List.mem_range.1 hj
    have e : (colsQ rs (ptl rs.length Y D) n).getD j 0 = colQ rs (ptl rs.length Y D) j := by
      unfold colsQ
      simp [List.getD_eq_getElem?_getD, List.getElem?_map, hj]
    rw [e, colQ_ptl, Bool.not_eq_true', decide_eq_false_iff_not, cmpQ_neg, Rat.not_lt]
    exact int_le_shq hD (h j hj)
end
end Go.Proofs.YtdhmbgogmoaofaaGreat
namespace Go.Proofs.YtdhmbgogmoaofaaGreat
open Go.Own Go.Limbs
attribute [local irreducible] St Ops Go.Own.Fin Ok
theorem lFracs : Ld1 Tryz.prog 25 := Ld1.of _ Tryz.underlying25 rfl
section
variable (N : Nat) (rs : List Rw) (c : List Int) (pt ray du : List Fr) (hv : validR N rs = true) (hc : okCoeffs N c = true)
include hv hc
end
end Go.Proofs.YtdhmbgogmoaofaaGreat
namespace Go.Proofs.YtdhmbgogmoaofaaGreat
open Go.Own Go.Limbs
attribute [local irreducible] St Ops Go.Own.Fin Ok
theorem gorzero : InGo Tryz.prog 76 := InGo.of Tryz.func76 (by kernel_rfl) (by kernel_rfl)
theorem rzero_frz : Ok Tryz.prog 76 [fracC frz0] (boolC true) := by
  refine Ok.enter Tryz.func76 rfl _ Tryz.ntmps76 rfl ?_
  intro S w
  have e : (limbs frz0.num).length = 0 := by decide +kernel
  have e' : (limbs frz0.den).length = 0 := by decide +kernel
  have e2 : frz0.neg = false := rfl
  generalize frz0 = f at *
  (refine Qy (Qx fun K hK => ?_); refine Qt 0 rfl rfl rfl rfl rfl rfl rfl ?_; refine Qv rfl rfl rfl ?_; refine Qj (hK _ _ (Qz (Qy ?_))); clear hK K; refine Qx (fun K hK => ?_); refine QV rfl rfl rfl (by with_reducible first | exact fF0 | exact fF1 | exact fF2 | exact fR0 | exact fR1) rfl ?_; refine QJ rfl rfl rfl rfl rfl (by with_reducible first | exact lInt | exact lNat | exact lBool | exact lInts) rfl ?_; refine Qr rfl rfl rfl ?_; refine Qq rfl rfl rfl ?_)
  rw [e2]
  (refine QV rfl rfl rfl (by with_reducible first | exact fF0 | exact fF1 | exact fF2 | exact fR0 | exact fR1) rfl ?_; refine QJ rfl rfl rfl rfl rfl (by with_reducible first | exact lInt | exact lNat | exact lBool | exact lInts) rfl ?_; refine Q4 rfl rfl (by with_reducible first | exact sNat.und | exact sInts.und) (List.length_map ..) rfl ?_; refine Qw ieql rfl rfl rfl rfl ?_; refine Q7 rfl rfl rfl rfl ?_; refine Qq rfl rfl rfl ?_)
  rw [e]
  (refine QV rfl rfl rfl (by with_reducible first | exact fF0 | exact fF1 | exact fF2 | exact fR0 | exact fR1) rfl ?_; refine QJ rfl rfl rfl rfl rfl (by with_reducible first | exact lInt | exact lNat | exact lBool | exact lInts) rfl ?_; refine Q4 rfl rfl (by with_reducible first | exact sNat.und | exact sInts.und) (List.length_map ..) rfl ?_; refine Qw ieql rfl rfl rfl rfl ?_; refine Q7 rfl rfl rfl rfl ?_; refine Qv rfl rfl rfl ?_; refine Qj (hK _ _ (Qz (Q3 ?_))); clear hK K)
  rw [e']
  skip
  refine QK [_] rfl (QQ rfl Qu) rfl rfl
theorem gorgrows : InGo Tryz.prog 77 := InGo.of Tryz.func77 (by kernel_rfl) (by kernel_rfl)
set_option maxHeartbeats 8000000 in
theorem rgrows_gen (n : Nat) (rs : List Rw) (c : List Int) (ray : List Fr) (hl : ray.length = n) (hn : n ≤ 64) (hrl : rs.length ≤ 64) (hx : ∀ f ∈ ray, VF f) (hneg : ∀ f ∈ ray, f.neg = false) (hR : ∀ r ∈ rs, VFit r.cs ray) (hC : VFit c ray) :
    Ok Tryz.prog 77 [intC n, rowsC rs, intsC c, fracsC ray] (boolC (growB rs c ray)) := by
  have hP := Point_ok n ray (by omega) hx
  rw [decide_eq_true (show (ray.length : Int) = (n : Int) by omega), show ray.any (fun f => f.neg) = false from List.any_eq_false.2 fun f hf => by rw [hneg f hf]; decide] at hP
  have hP : Ok Tryz.prog 66 [intC n, fracsC ray] (boolC true) := hP
  have hVc := rValue_gen c ray hC
  have hSc := Sign_ok (ofQ (vsum c ray))
  rw [sgnF_q] at hSc
  refine Ok.enter Tryz.func77 rfl _ Tryz.ntmps77 rfl ?_
  intro S w
  (refine Qy (Qx fun K hK => ?_); refine Qv rfl rfl rfl ?_; refine Qj (hK _ _ (Qz (Qy (Qy ?_)))); clear hK K; refine Qx (fun K hK => ?_); refine Qq rfl rfl rfl ?_; refine Qq rfl rfl rfl ?_)
  refine QX goPoint hP rfl rfl rfl rfl ?_
  (refine Qr rfl rfl rfl ?_; refine Qj (hK _ _ (Qz (Qs rfl (QU (Qz (Qy (Qy ?_))))))); clear hK K; refine Qx (fun K hK => ?_); refine Qv rfl rfl rfl ?_; refine Qj (hK _ _ (Qz (Q2 ?_))); clear hK K)
  refine Ql (α := Nat) (fun i => i ≤ rs.length ∧ ∀ j, j < i → ¬ 0 < (vsum (rs.getD j rw0).cs ray).num)
    (fun i => [(1, .ct (rowsC rs)), (2, .ct (intsC c)), (3, .ct (fracsC ray)), (9, .ct (intC i))]) (fun _ => []) (fun i => rs.length - i) 0 ⟨Nat.zero_le _, fun j h => absurd h (Nat.not_lt_zero j)⟩ (by exact QZ rfl ⟨rfl, rfl, rfl, rfl, trivial⟩) ?_
  intro i ⟨hi, hj⟩
  (try dsimp only at hi hj ⊢)
  (refine Qy (Qy (Qx fun K hK => ?_)); refine Qq rfl rfl rfl ?_; refine Qq rfl rfl rfl ?_; refine Q4 rfl rfl (by with_reducible first | exact sFracs.und | exact sRows.und) (List.length_map ..) rfl ?_; refine Qw ilss rfl rfl rfl rfl ?_; refine Qj (hK _ _ (Qz ?_)); clear hK K)
  refine Q0 rfl (fun h => ?_) (fun h => ?_)
  · have e2 : (i : Int).toNat = i := Int.toNat_natCast i
    have hlt : i < rs.length := by omega
    have hmem := getD_mem (z := rw0) hlt
    have hVal := rValue_gen (rs.getD i rw0).cs ray (hR _ hmem)
    have hS := Sign_ok (ofQ (vsum (rs.getD i rw0).cs ray))
    rw [sgnF_q] at hS
    have hbad : 0 < (vsum (rs.getD i rw0).cs ray).num.sign → growB rs c ray = false := fun hgt => by
      unfold growB
      rw [List.all_eq_false.mpr ⟨_, hmem, by rw [decide_eq_true (Int.sign_pos_iff.1 hgt)]; decide⟩]; rfl
    have hgood : ¬ 0 < (vsum (rs.getD i rw0).cs ray).num.sign → ∀ j, j < i + 1 → ¬ 0 < (vsum (rs.getD j rw0).cs ray).num := fun hng j hj' => by
      rcases Nat.lt_or_ge j i with h3 | h3
      · exact hj j h3
      · have : j = i := by omega
        rw [this]; exact fun h => hng (Int.sign_pos_iff.2 h)
    (refine QU (Qz (Qy (Q2 (Qy (Qx fun K hK => ?_))))); refine Qq rfl rfl rfl ?_; refine Qq rfl rfl rfl ?_; refine Qf rfl rfl rfl (by with_reducible exact sRows) (by omega) (rows_at (by omega) (by omega)) rfl ?_; refine Xc rfl rfl (by with_reducible first | exact fF0 | exact fF1 | exact fF2 | exact fR0 | exact fR1) rfl ?_; refine Qm rfl rfl rfl (by with_reducible first | exact lInt | exact lNat | exact lBool | exact lInts) rfl ?_; refine Qq rfl rfl rfl ?_)
    rw [e2]
    generalize rs.getD i rw0 = r0 at hVal hS hbad hgood ⊢
    skip
    refine QX gorValue hVal rfl rfl rfl rfl ?_
    (refine Qq rfl rfl rfl ?_; refine QY rfl rfl rfl rfl ?_; refine QY rfl rfl rfl rfl ?_; refine Qd 0 rfl rfl (by with_reducible first | exact zvFrac) rfl rfl rfl ?_; refine Qa 3 rfl rfl rfl rfl rfl (by with_reducible exact szFrac) rfl rfl ?_; refine Qv rfl rfl rfl ?_; refine Qj (hK _ _ (Qz (Qy ?_))); clear hK K; refine Qx (fun K hK => ?_); refine Qq rfl rfl rfl ?_; refine Qw ineq rfl rfl rfl rfl ?_; refine Qq rfl rfl rfl ?_; refine Qp (n := 3) rfl rfl rfl rfl rfl (by with_reducible exact lFrac) rfl ?_)
    refine QX goSign hS rfl rfl rfl rfl ?_
    (refine Qw igtr rfl rfl rfl rfl ?_; refine Q6 rfl rfl rfl rfl ?_; refine Qj (hK _ _ (Qz ?_)); clear hK K)
    refine Q0 rfl (fun h3 => ?_) (fun h3 => ?_)
    · (refine Qy (Qx fun K hK => ?_); refine Qv rfl rfl rfl ?_; refine Qj (hK _ _ (Qz (Q3 (Q9 (QW (QW (Q9 (QW ?_)))))))); clear hK K)
      refine QK [_] rfl (QQ rfl Qu) (by rw [hbad h3]; rfl) rfl
    · (refine QU (Qz (Qx fun K hK => ?_)); refine Qq rfl rfl rfl ?_; refine Qw (iadd (by omega) (by omega)) rfl rfl rfl rfl ?_; refine Qv rfl rfl rfl ?_; refine Qj (hK _ _ (Q5 ?_)); clear hK K)
      refine XY 0 ?_
      refine Q8 (i + 1) (by omega) ⟨by omega, hgood h3⟩ (by exact QZ rfl ⟨rfl, rfl, rfl, by simp only [Int.natCast_add]; rfl, trivial⟩)
  · have hi' : i = rs.length := by omega
    have hall : growB rs c ray = decide (0 < (vsum c ray).num.sign) := by
      unfold growB
      rw [List.all_eq_true.mpr (fun r hr => ?_), decide_eq_decide.2 (Int.sign_pos_iff (x := (vsum c ray).num))]
      · rfl
      · obtain ⟨k, hk, rfl⟩ := List.getElem_of_mem hr
        have := hj k (by omega)
        rw [show rs.getD k rw0 = rs[k] by simp [List.getD_eq_getElem?_getD, List.getElem?_eq_getElem hk]] at this
        rw [decide_eq_false this]; rfl
    rw [hall]
    (refine Qe (Qz (Qy (Qx fun K hK => ?_))); refine Qq rfl rfl rfl ?_; refine Qq rfl rfl rfl ?_)
    refine QX gorValue hVc rfl rfl rfl rfl ?_
    (refine Qq rfl rfl rfl ?_; refine QY rfl rfl rfl rfl ?_; refine QY rfl rfl rfl rfl ?_; refine Qd 0 rfl rfl (by with_reducible first | exact zvFrac) rfl rfl rfl ?_; refine Qa 3 rfl rfl rfl rfl rfl (by with_reducible exact szFrac) rfl rfl ?_; refine Qv rfl rfl rfl ?_; refine Qj (hK _ _ (Qz (Qy ?_))); clear hK K; refine Qx (fun K hK => ?_); refine Qq rfl rfl rfl ?_; refine Qw ieql rfl rfl rfl rfl ?_; refine Qq rfl rfl rfl ?_; refine Qp (n := 3) rfl rfl rfl rfl rfl (by with_reducible exact lFrac) rfl ?_)
    refine QX goSign hSc rfl rfl rfl rfl ?_
    (refine Qw igtr rfl rfl rfl rfl ?_; refine Q7 rfl rfl rfl rfl ?_; refine Qv rfl rfl rfl ?_; refine Qj (hK _ _ (Qz (Q3 ?_))); clear hK K)
    refine QK [_] rfl (QQ rfl Qu) rfl rfl
theorem gorCheck : InGo Tryz.prog 23 := InGo.of Tryz.func23 (by kernel_rfl) (by kernel_rfl)
section
variable (N : Nat) (rs : List Rw) (c : List Int) (pt ray du : List Fr) (hv : validR N rs = true) (hc : okCoeffs N c = true)
include hv hc
theorem rCheck_pre : Ok Tryz.prog 30 [intC N, rowsC rs] (boolC true) ∧ Ok Tryz.prog 75 [intC N, intsC c] (boolC true) := by
  obtain ⟨v1, v2, v3, v4⟩ := validR_spec hv
  have h1 := rLValid_ok N rs (by omega) (fun r hr => by have := (v4 r hr).1; omega)
  rw [hv] at h1
  have hc' := hc
  unfold okCoeffs at hc'
  simp only [Bool.and_eq_true, decide_eq_true_eq, Bool.not_eq_true'] at hc'
  have h2 := rValidGoal_ok N c (by omega)
  rw [hc] at h2
  exact ⟨h1, h2⟩
set_option maxHeartbeats 8000000 in
theorem rCheck_opt (val : Rat) (hS : Ok Tryz.prog 21 [intC N, rowsC rs, fracsC pt] (boolC true)) (hV : Ok Tryz.prog 18 [intsC c, fracsC pt] (.fr (tupT [ratC val, intC 0]))) (hs : SzQ val) (hB : Ok Tryz.prog 54 [intC N, rowsC rs, intsC c, fracsC du, ratC val] (boolC true)) :
    Ok Tryz.prog 23 [intC N, rowsC rs, intsC c, ocC ⟨1, ofQ val, pt, [], du⟩] (boolC true) := by
  obtain ⟨p1, p2⟩ := rCheck_pre N rs c hv hc
  have hL := rFCompare_q val val (by have := hs.n; omega) (by have := hs.d; omega) (by have := hs.n; omega) (by have := hs.d; omega)
  rw [cmpQ_self] at hL
  refine Ok.enter Tryz.func23 rfl _ Tryz.ntmps23 rfl ?_
  intro S w
  (refine Qy (Qx fun K hK => ?_); refine Qt 0 rfl rfl rfl rfl rfl rfl rfl ?_; refine Qv rfl rfl rfl ?_; refine Qj (hK _ _ (Qz (Qy (Qy ?_)))); clear hK K; refine Qx (fun K hK => ?_); refine Qq rfl rfl rfl ?_; refine Qq rfl rfl rfl ?_)
  refine QX gorLValid p1 rfl rfl rfl rfl ?_
  (refine Qr rfl rfl rfl ?_; refine Qq rfl rfl rfl ?_; refine Qq rfl rfl rfl ?_; refine Qq rfl rfl rfl ?_)
  refine QX gorValidGoal p2 rfl rfl rfl rfl ?_
  (refine Qr rfl rfl rfl ?_; refine Q6 rfl rfl rfl rfl ?_; refine Qj (hK _ _ (Qz (Qs rfl (QU (Qz (Qy (Qy ?_))))))); clear hK K; refine Qx (fun K hK => ?_); refine QV rfl rfl rfl (by with_reducible first | exact fO0 | exact fO1 | exact fO2 | exact fO3 | exact fO4) rfl ?_; refine QJ rfl rfl rfl rfl rfl (by with_reducible first | exact lInt | exact lFracs) rfl ?_; refine Qj (hK _ _ (Qz (Q2 (Qy ?_)))); clear hK K; refine Qx (fun K hK => ?_); refine Qw ieql rfl rfl rfl rfl ?_; refine Qv rfl rfl rfl ?_; refine Qj (hK _ _ (Qz (Xk rfl (Qy (Qy ?_))))); clear hK K; refine Qx (fun K hK => ?_); refine QV rfl rfl rfl (by with_reducible first | exact fO0 | exact fO1 | exact fO2 | exact fO3 | exact fO4) rfl ?_; refine QJ rfl rfl rfl rfl rfl (by with_reducible first | exact lInt | exact lFracs) rfl ?_; refine Q4 rfl rfl (by with_reducible exact sFracs.und) (List.length_map ..) rfl ?_; refine Qw igtr rfl rfl rfl rfl ?_; refine Qq rfl rfl rfl ?_; refine Qq rfl rfl rfl ?_; refine Qq rfl rfl rfl ?_; refine QV rfl rfl rfl (by with_reducible first | exact fO0 | exact fO1 | exact fO2 | exact fO3 | exact fO4) rfl ?_; refine QJ rfl rfl rfl rfl rfl (by with_reducible first | exact lInt | exact lFracs) rfl ?_)
  refine QX gorSatisfies hS rfl rfl rfl rfl ?_
  (refine Qr rfl rfl rfl ?_; refine Q6 rfl rfl rfl rfl ?_; refine Qq rfl rfl rfl ?_; refine QV rfl rfl rfl (by with_reducible first | exact fO0 | exact fO1 | exact fO2 | exact fO3 | exact fO4) rfl ?_; refine X7 (n := 3) rfl rfl rfl rfl (Nat.le_of_ble_eq_true rfl) (by with_reducible exact lFrac) rfl ?_)
  refine QX gorFValid (rFValid_V _ hs.vf) rfl rfl rfl rfl ?_
  (refine Qr rfl rfl rfl ?_; refine Q6 rfl rfl rfl rfl ?_; refine Qj (hK _ _ (Qz (Qs rfl (QU (Qz (Qy ?_)))))); clear hK K; refine Qx (fun K hK => ?_); refine Qq rfl rfl rfl ?_; refine QV rfl rfl rfl (by with_reducible first | exact fO0 | exact fO1 | exact fO2 | exact fO3 | exact fO4) rfl ?_; refine QJ rfl rfl rfl rfl rfl (by with_reducible first | exact lInt | exact lFracs) rfl ?_)
  refine QX gorValue hV rfl rfl rfl rfl ?_
  (refine Qq rfl rfl rfl ?_; refine QY rfl rfl rfl rfl ?_; refine QY rfl rfl rfl rfl ?_; refine Qd 1 rfl rfl (by with_reducible first | exact zvFrac) rfl rfl rfl ?_; refine Qa 3 rfl rfl rfl rfl rfl (by with_reducible exact szFrac) rfl rfl ?_; refine Qv rfl rfl rfl ?_; refine Qj (hK _ _ (Qz (Qy ?_))); clear hK K; refine Qx (fun K hK => ?_); refine Qp (n := 3) rfl rfl rfl rfl rfl (by with_reducible exact lFrac) rfl ?_; refine QV rfl rfl rfl (by with_reducible first | exact fO0 | exact fO1 | exact fO2 | exact fO3 | exact fO4) rfl ?_; refine X7 (n := 3) rfl rfl rfl rfl (Nat.le_of_ble_eq_true rfl) (by with_reducible exact lFrac) rfl ?_)
  refine QX gorFCompareQ hL rfl rfl rfl rfl ?_
  (refine Qq rfl rfl rfl ?_; refine QY rfl rfl rfl rfl ?_; refine QY rfl rfl rfl rfl ?_; refine Qv rfl rfl rfl ?_; refine Qv rfl rfl rfl ?_; refine Qj (hK _ _ (Qz (Qy ?_))); clear hK K; refine Qx (fun K hK => ?_); refine Qq rfl rfl rfl ?_; refine Qw ieql rfl rfl rfl rfl ?_; refine Qq rfl rfl rfl ?_; refine Qq rfl rfl rfl ?_; refine Qw ieql rfl rfl rfl rfl ?_; refine Q7 rfl rfl rfl rfl ?_; refine Qq rfl rfl rfl ?_; refine Qq rfl rfl rfl ?_; refine Qq rfl rfl rfl ?_; refine Qq rfl rfl rfl ?_; refine QV rfl rfl rfl (by with_reducible first | exact fO0 | exact fO1 | exact fO2 | exact fO3 | exact fO4) rfl ?_; refine QJ rfl rfl rfl rfl rfl (by with_reducible first | exact lInt | exact lFracs) rfl ?_; refine QV rfl rfl rfl (by with_reducible first | exact fO0 | exact fO1 | exact fO2 | exact fO3 | exact fO4) rfl ?_; refine X7 (n := 3) rfl rfl rfl rfl (Nat.le_of_ble_eq_true rfl) (by with_reducible exact lFrac) rfl ?_)
  refine QX gorBounds hB rfl rfl rfl rfl ?_
  (refine Q7 rfl rfl rfl rfl ?_; refine Qv rfl rfl rfl ?_; refine Qj (hK _ _ (Qz (Q3 (Q9 (QW ?_))))); clear hK K)
  refine QK [_] rfl (QQ rfl Qu) rfl rfl
set_option maxHeartbeats 8000000 in
theorem rCheck_unb (hS : Ok Tryz.prog 21 [intC N, rowsC rs, fracsC pt] (boolC true)) (hG : Ok Tryz.prog 77 [intC N, rowsC rs, intsC c, fracsC ray] (boolC true)) :
    Ok Tryz.prog 23 [intC N, rowsC rs, intsC c, ocC ⟨2, frz0, pt, ray, []⟩] (boolC true) := by
  obtain ⟨p1, p2⟩ := rCheck_pre N rs c hv hc
  have hZ := rzero_frz
  generalize frz0 = fz at *
  refine Ok.enter Tryz.func23 rfl _ Tryz.ntmps23 rfl ?_
  intro S w
  (refine Qy (Qx fun K hK => ?_); refine Qt 0 rfl rfl rfl rfl rfl rfl rfl ?_; refine Qv rfl rfl rfl ?_; refine Qj (hK _ _ (Qz (Qy (Qy ?_)))); clear hK K; refine Qx (fun K hK => ?_); refine Qq rfl rfl rfl ?_; refine Qq rfl rfl rfl ?_)
  refine QX gorLValid p1 rfl rfl rfl rfl ?_
  (refine Qr rfl rfl rfl ?_; refine Qq rfl rfl rfl ?_; refine Qq rfl rfl rfl ?_; refine Qq rfl rfl rfl ?_)
  refine QX gorValidGoal p2 rfl rfl rfl rfl ?_
  (refine Qr rfl rfl rfl ?_; refine Q6 rfl rfl rfl rfl ?_; refine Qj (hK _ _ (Qz (Qs rfl (QU (Qz (Qy (Qy ?_))))))); clear hK K; refine Qx (fun K hK => ?_); refine QV rfl rfl rfl (by with_reducible first | exact fO0 | exact fO1 | exact fO2 | exact fO3 | exact fO4) rfl ?_; refine QJ rfl rfl rfl rfl rfl (by with_reducible first | exact lInt | exact lFracs) rfl ?_; refine Qj (hK _ _ (Qz (Q2 (Qy ?_)))); clear hK K; refine Qx (fun K hK => ?_); refine Qw ieql rfl rfl rfl rfl ?_; refine Qv rfl rfl rfl ?_; refine Qj (hK _ _ (Qz (Qs rfl (Qy ?_)))); clear hK K; refine Qx (fun K hK => ?_); refine Qw ieql rfl rfl rfl rfl ?_; refine Qv rfl rfl rfl ?_; refine Qj (hK _ _ (Qz (Xk rfl (Qy ?_)))); clear hK K; refine Qx (fun K hK => ?_); refine QV rfl rfl rfl (by with_reducible first | exact fO0 | exact fO1 | exact fO2 | exact fO3 | exact fO4) rfl ?_; refine QJ rfl rfl rfl rfl rfl (by with_reducible first | exact lInt | exact lFracs) rfl ?_; refine Q4 rfl rfl (by with_reducible exact sFracs.und) (List.length_map ..) rfl ?_; refine Qw ieql rfl rfl rfl rfl ?_; refine Qq rfl rfl rfl ?_; refine QV rfl rfl rfl (by with_reducible first | exact fO0 | exact fO1 | exact fO2 | exact fO3 | exact fO4) rfl ?_; refine X7 (n := 3) rfl rfl rfl rfl (Nat.le_of_ble_eq_true rfl) (by with_reducible exact lFrac) rfl ?_)
  refine QX gorzero hZ rfl rfl rfl rfl ?_
  (refine Q7 rfl rfl rfl rfl ?_; refine Qq rfl rfl rfl ?_; refine Qq rfl rfl rfl ?_; refine Qq rfl rfl rfl ?_; refine QV rfl rfl rfl (by with_reducible first | exact fO0 | exact fO1 | exact fO2 | exact fO3 | exact fO4) rfl ?_; refine QJ rfl rfl rfl rfl rfl (by with_reducible first | exact lInt | exact lFracs) rfl ?_)
  refine QX gorSatisfies hS rfl rfl rfl rfl ?_
  (refine Q7 rfl rfl rfl rfl ?_; refine Qq rfl rfl rfl ?_; refine Qq rfl rfl rfl ?_; refine Qq rfl rfl rfl ?_; refine Qq rfl rfl rfl ?_; refine QV rfl rfl rfl (by with_reducible first | exact fO0 | exact fO1 | exact fO2 | exact fO3 | exact fO4) rfl ?_; refine QJ rfl rfl rfl rfl rfl (by with_reducible first | exact lInt | exact lFracs) rfl ?_)
  refine QX gorgrows hG rfl rfl rfl rfl ?_
  (refine Q7 rfl rfl rfl rfl ?_; refine Qv rfl rfl rfl ?_; refine Qj (hK _ _ (Qz (Q3 (Q9 (QW ?_))))); clear hK K)
  refine QK [_] rfl (QQ rfl Qu) rfl rfl
set_option maxHeartbeats 8000000 in
theorem rCheck_emp (hR : Ok Tryz.prog 50 [intC N, rowsC rs, fracsC du] (boolC true)) :
    Ok Tryz.prog 23 [intC N, rowsC rs, intsC c, ocC ⟨3, frz0, [], [], du⟩] (boolC true) := by
  obtain ⟨p1, p2⟩ := rCheck_pre N rs c hv hc
  have hZ := rzero_frz
  generalize frz0 = fz at *
  refine Ok.enter Tryz.func23 rfl _ Tryz.ntmps23 rfl ?_
  intro S w
  (refine Qy (Qx fun K hK => ?_); refine Qt 0 rfl rfl rfl rfl rfl rfl rfl ?_; refine Qv rfl rfl rfl ?_; refine Qj (hK _ _ (Qz (Qy (Qy ?_)))); clear hK K; refine Qx (fun K hK => ?_); refine Qq rfl rfl rfl ?_; refine Qq rfl rfl rfl ?_)
  refine QX gorLValid p1 rfl rfl rfl rfl ?_
  (refine Qr rfl rfl rfl ?_; refine Qq rfl rfl rfl ?_; refine Qq rfl rfl rfl ?_; refine Qq rfl rfl rfl ?_)
  refine QX gorValidGoal p2 rfl rfl rfl rfl ?_
  (refine Qr rfl rfl rfl ?_; refine Q6 rfl rfl rfl rfl ?_; refine Qj (hK _ _ (Qz (Qs rfl (QU (Qz (Qy (Qy ?_))))))); clear hK K; refine Qx (fun K hK => ?_); refine QV rfl rfl rfl (by with_reducible first | exact fO0 | exact fO1 | exact fO2 | exact fO3 | exact fO4) rfl ?_; refine QJ rfl rfl rfl rfl rfl (by with_reducible first | exact lInt | exact lFracs) rfl ?_; refine Qj (hK _ _ (Qz (Q2 (Qy ?_)))); clear hK K; refine Qx (fun K hK => ?_); refine Qw ieql rfl rfl rfl rfl ?_; refine Qv rfl rfl rfl ?_; refine Qj (hK _ _ (Qz (Qs rfl (Qy ?_)))); clear hK K; refine Qx (fun K hK => ?_); refine Qw ieql rfl rfl rfl rfl ?_; refine Qv rfl rfl rfl ?_; refine Qj (hK _ _ (Qz (Qs rfl (Qy ?_)))); clear hK K; refine Qx (fun K hK => ?_); refine Qw ieql rfl rfl rfl rfl ?_; refine Qv rfl rfl rfl ?_; refine Qj (hK _ _ (Qz (Xk rfl (Qy ?_)))); clear hK K; refine Qx (fun K hK => ?_); refine QV rfl rfl rfl (by with_reducible first | exact fO0 | exact fO1 | exact fO2 | exact fO3 | exact fO4) rfl ?_; refine QJ rfl rfl rfl rfl rfl (by with_reducible first | exact lInt | exact lFracs) rfl ?_; refine Q4 rfl rfl (by with_reducible exact sFracs.und) (List.length_map ..) rfl ?_; refine Qw ieql rfl rfl rfl rfl ?_; refine Qq rfl rfl rfl ?_; refine QV rfl rfl rfl (by with_reducible first | exact fO0 | exact fO1 | exact fO2 | exact fO3 | exact fO4) rfl ?_; refine QJ rfl rfl rfl rfl rfl (by with_reducible first | exact lInt | exact lFracs) rfl ?_; refine Q4 rfl rfl (by with_reducible exact sFracs.und) (List.length_map ..) rfl ?_; refine Qw ieql rfl rfl rfl rfl ?_; refine Q7 rfl rfl rfl rfl ?_; refine Qq rfl rfl rfl ?_; refine QV rfl rfl rfl (by with_reducible first | exact fO0 | exact fO1 | exact fO2 | exact fO3 | exact fO4) rfl ?_; refine X7 (n := 3) rfl rfl rfl rfl (Nat.le_of_ble_eq_true rfl) (by with_reducible exact lFrac) rfl ?_)
  refine QX gorzero hZ rfl rfl rfl rfl ?_
  (refine Q7 rfl rfl rfl rfl ?_; refine Qq rfl rfl rfl ?_; refine Qq rfl rfl rfl ?_; refine Qq rfl rfl rfl ?_; refine QV rfl rfl rfl (by with_reducible first | exact fO0 | exact fO1 | exact fO2 | exact fO3 | exact fO4) rfl ?_; refine QJ rfl rfl rfl rfl rfl (by with_reducible first | exact lInt | exact lFracs) rfl ?_)
  refine QX gorRefutes hR rfl rfl rfl rfl ?_
  (refine Q7 rfl rfl rfl rfl ?_; refine Qv rfl rfl rfl ?_; refine Qj (hK _ _ (Qz (Q3 (Q9 (QW ?_))))); clear hK K)
  refine QK [_] rfl (QQ rfl Qu) rfl rfl
end
end Go.Proofs.YtdhmbgogmoaofaaGreat
namespace Go.Proofs.YtdhmbgogmoaofaaGreat
open Go.Own Go.Limbs
attribute [local irreducible] St Ops Go.Own.Fin Ok
theorem rCheck_sol {N : Nat} {rs : List Rw} {c : List Int} {O : Oc} (hv : validR N rs = true) (hc : okCoeffs N c = true) (hn : N ≤ 6) (hl : rs.length ≤ 6) (h : Sol N rs c O) :
    Ok Tryz.prog 23 [intC N, rowsC rs, intsC c, ocC O] (boolC true) := by
  obtain ⟨v1, v2, v3, v4⟩ := validR_spec hv
  have hcc : c.length ≤ N ∧ ∀ y ∈ c, y.natAbs ≤ 1048576 := by
    have hc := hc
    unfold okCoeffs at hc
    simp only [Bool.and_eq_true, decide_eq_true_eq, Bool.not_eq_true'] at hc
    refine ⟨by omega, fun y hy => ?_⟩
    have := List.any_eq_false.1 hc.2 y hy
    unfold badC at this
    simp only [Bool.or_eq_true, decide_eq_true_eq] at this
    omega
  obtain ⟨cl, cb'⟩ := hcc
  have cbb : ∀ i, -9223372036854775808 ≤ c.getD i 0 ∧ c.getD i 0 ≤ 9223372036854775807 := fun i => by
    rcases Nat.lt_or_ge i c.length with h4 | h4
    · have := cb' _ (getD_mem (z := (0 : Int)) h4); omega
    · rw [getD_ge h4]; decide
  have sat : ∀ {D : Int} {X : Nat → Int}, Feas N rs D X → D.natAbs ≤ Kt rs.length → (∀ v, v < N → (X v).natAbs ≤ Kt rs.length) → Ok Tryz.prog 21 [intC N, rowsC rs, fracsC (ptl N X D)] (boolC true) := fun {D X} hX b1 b2 => by
    have hF := ptl_F9 hl hX.den b1 b2
    have := rSatisfies_gen N rs (ptl N X D) (by omega) (fun r hr => by have := (v4 r hr).1; omega) (by rw [ptl_len]; omega) (fun f hf => (hF f hf).vf) (fun _ _ => sfit9 N rs _ hv (by rw [ptl_len]; omega) hF)
    rw [sat_ptl hv hX] at this
    exact this
  cases h with
  | opt D X Y val hX hv' hY hw b1 b2 b3 b4 =>
    have hF := ptl_F9 hl hX.den b1 b2
    have hM := mul_ptl hv hl hY.den hY.nn b1 b3
    have f1 := vfit9 c (ptl N X D) (by omega) cbb (by rw [ptl_len]; omega) hF
    have e1 := vsum_ptl c N X D cl
    rw [hv'] at e1
    rw [e1] at f1
    have hV := rValue_gen c (ptl N X D) f1.1
    rw [e1] at hV
    have hs : SzQ (shq val D) := (F9.shq hl hX.den b1 b4).vf.szq
    have hB := rBounds_gen N rs c _ (shq val D) hv hM (by omega) (fun y hy => by have := cb' y hy; omega) hs
    rw [cov_ptl c hY.den cl hY.col, bsQ_ptl, hw, cmpQ_self] at hB
    exact rCheck_opt N rs c _ _ hv hc _ (sat hX b1 b2) hV hs hB
  | unb D X Z hX hZ b1 b2 b3 =>
    have hF := ptl_F9 hl hZ.den b1 b3
    have f1 := vfit9 c (ptl N Z D) (by omega) cbb (by rw [ptl_len]; omega) hF
    have hS := sfit9 N rs _ hv (by rw [ptl_len]; omega) hF
    have hG := rgrows_gen N rs c (ptl N Z D) (ptl_len ..) (by omega) (by omega) (fun f hf => (hF f hf).vf) (ptl_nn hZ.den hZ.nn) hS.v f1.1
    have e : growB rs c (ptl N Z D) = true := by
      unfold growB
      rw [List.all_eq_true.2 fun r hr => ?_, vsum_ptl c N Z D cl, decide_eq_true ((shq_num_sign hZ.den).2.2 hZ.goal)]
      · rfl
      · obtain ⟨i, hi, rfl⟩ := List.getElem_of_mem hr
        have e : rs.getD i rw0 = rs[i] := by simp [List.getD_eq_getElem?_getD, List.getElem?_eq_getElem hi]
        have h1 := hZ.row i hi
        unfold ca at h1
        rw [e] at h1
        rw [vsum_ptl _ _ _ _ (by have := (v4 _ hr).1; omega), Bool.not_eq_true', decide_eq_false_iff_not]
        intro h2
        rcases Int.lt_or_eq_of_le h1 with h4 | h4
        · have := (shq_num_sign hZ.den).2.1 h4; omega
        · rw [h4, shq_zero] at h2; exact absurd h2 (by decide)
    rw [e] at hG
    exact rCheck_unb N rs c _ _ hv hc (sat hX b1 b2) hG
  | emp D Y hY b1 b3 =>
    have hM := mul_ptl hv hl hY.den hY.nn b1 b3
    have hR := rRefutes_gen N rs _ hv hM
    rw [cov_ptl [] hY.den (Nat.zero_le _) (fun j hj => by rw [show ([] : List Int).getD j 0 = 0 by simp, Int.mul_zero]; exact hY.col j hj), bsQ_ptl, decide_eq_true ((shq_num_sign hY.den).2.1 hY.neg)] at hR
    exact rCheck_emp N rs c _ hv hc hR
end Go.Proofs.YtdhmbgogmoaofaaGreat
namespace Go.Proofs.YtdhmbgogmoaofaaGreat
open Go.Own Go.Limbs Go.Det
theorem shq_inj {a b D : Int} (hD : 0 < D) (h : shq a D = shq b D) : a = b := by
  unfold shq at h
  rw [Rat.mkRat_eq_iff (by omega) (by omega)] at h
  exact Int.eq_of_mul_eq_mul_right (by omega) h
theorem shq_int {b D : Int} (hD : 0 < D) : shq (D * b) D = (b : Rat) := Rat.le_antisymm (shq_le_int hD (Int.le_refl _)) (int_le_shq hD (Int.le_refl _))
theorem le_of_shq {a D b : Int} (hD : 0 < D) (h : shq a D ≤ (b : Rat)) : a ≤ D * b := by
  rcases Int.le_total a (D * b) with h1 | h1
  · exact h1
  · have := Rat.le_antisymm h (int_le_shq hD h1)
    rw [← shq_int hD] at this
    rw [shq_inj hD this]; exact Int.le_refl _
theorem common : ∀ (xs : List Fr), (∀ f ∈ xs, f.neg = false) → (∀ f ∈ xs, 0 < f.den) → ∃ (D : Int) (X : Nat → Int), 0 < D ∧ (∀ j, 0 ≤ X j) ∧ ∀ j, j < xs.length → qv (xs.getD j fr0) = shq (X j) D
  | [], _, _ => ⟨1, fun _ => 0, by decide, fun _ => Int.le_refl _, fun j h => absurd h (Nat.not_lt_zero j)⟩
  | f :: xs, hn, hd => by
    obtain ⟨D, X, h1, h2, h3⟩ := common xs (fun g hg => hn g (List.mem_cons_of_mem _ hg)) (fun g hg => hd g (List.mem_cons_of_mem _ hg))
    have f0 := hd f (List.mem_cons_self ..)
    have fn := hn f (List.mem_cons_self ..)
    have hp : 0 < D * (f.den : Int) := Int.mul_pos h1 (by omega)
    refine ⟨D * f.den, fun j => match j with | 0 => D * f.num | j + 1 => f.den * X j, hp, fun j => ?_, fun j hj => ?_⟩
    · cases j with
      | zero => exact Int.mul_nonneg (by omega) (by omega)
      | succ j => exact Int.mul_nonneg (by omega) (h2 j)
    · cases j with
      | zero =>
        show qv f = _
        have e : qv f = shq f.num f.den := by unfold qv shq; rw [fn]; rfl
        rw [e]
        exact shq_eq (by omega) hp (by grind)
      | succ j =>
        show qv (xs.getD j fr0) = _
        rw [h3 j (by simpa using hj)]
        exact shq_eq h1 hp (by grind)
theorem psum_com (c : List Int) (xs : List Fr) {n : Nat} {X : Nat → Int} {D : Int} (h : ∀ j, j < n → qv (xs.getD j fr0) = shq (X j) D) : ∀ k, k ≤ n → psum c xs k = shq (sm (fun j => c.getD j 0 * X j) k) D
  | 0, _ => by simp [psum, sm, shq_zero]
  | k + 1, hk => by
    simp only [psum, sm]
    rw [psum_com c xs h k (by omega), h k (by omega), shq_add, shq_mul, Rat.mul_comm]
theorem vsum_com (c : List Int) (xs : List Fr) {n : Nat} {X : Nat → Int} {D : Int} (hl : xs.length = n) (h : ∀ j, j < n → qv (xs.getD j fr0) = shq (X j) D) (hc : c.length ≤ n) : vsum c xs = shq (sm (fun j => c.getD j 0 * X j) n) D := by
  unfold vsum
  rw [hl, Nat.min_eq_left hc, psum_com c xs h _ hc, sm_tail _ hc fun k hk => by rw [getD_ge hk, Int.zero_mul]]
theorem sat_feas {n : Nat} {rs : List Rw} {xs : List Fr} (hs : satB n rs xs = true) (hd : ∀ f ∈ xs, 0 < f.den) : ∃ (D : Int) (X : Nat → Int), Feas n rs D X ∧ ∀ c : List Int, c.length ≤ n → vsum c xs = shq (sm (fun j => c.getD j 0 * X j) n) D := by
  unfold satB at hs
  simp only [Bool.and_eq_true, decide_eq_true_eq, Bool.not_eq_true'] at hs
  obtain ⟨⟨hv, hl⟩, hn, hr⟩ := hs
  obtain ⟨v1, v2, v3, v4⟩ := validR_spec hv
  have hl : xs.length = n := by omega
  obtain ⟨D, X, h1, h2, h3⟩ := common xs (fun f hf => by have := List.any_eq_false.1 hn f hf; simpa using this) hd
  rw [hl] at h3
  have hvs : ∀ c : List Int, c.length ≤ n → vsum c xs = shq (sm (fun j => c.getD j 0 * X j) n) D := fun c hc => vsum_com c xs hl h3 hc
  refine ⟨D, X, ⟨h1, fun v _ => h2 v, fun i hi => ?_⟩, hvs⟩
  have hm := getD_mem (z := rw0) hi
  have h4 := List.all_eq_true.1 hr _ hm
  rw [decide_eq_true_eq, cmpQ_le_iff, hvs _ (by have := (v4 _ hm).1; omega)] at h4
  exact le_of_shq h1 h4
theorem sat_best {n : Nat} {rs : List Rw} {c : List Int} {O : Oc} {xs : List Fr} (h : Sol n rs c O) (hs : satB n rs xs = true) (hd : ∀ f ∈ xs, 0 < f.den) (hc : c.length ≤ n) : O.kind ≠ 3 ∧ (O.kind = 1 → ∃ q : Rat, O.value = ofQ q ∧ vsum c xs ≤ q) := by
  obtain ⟨D, X, hX, hvs⟩ := sat_feas hs hd
  cases h with
  | opt D' X' Y val hX' hv hY hw =>
    refine ⟨show (1 : Int) ≠ 3 by decide, fun _ => ⟨_, rfl, ?_⟩⟩
    have w := weak hX hY
    rw [hw] at w
    rw [hvs c hc]
    have d1 := hX.den
    have d2 := hX'.den
    unfold shq
    exact mkR_le (by omega) (by omega) (by rw [show ((D'.natAbs : Nat) : Int) = D' by omega, show ((D.natAbs : Nat) : Int) = D by omega, Int.mul_comm _ D', Int.mul_comm val]; exact w)
  | unb => exact ⟨show (2 : Int) ≠ 3 by decide, fun h => absurd (show (2 : Int) = 1 from h) (by decide)⟩
  | emp D' Y hY => exact (no_refu hX hY).elim
theorem sol_empty {n : Nat} {rs : List Rw} {c c' : List Int} {O O' : Oc} (h : Sol n rs c O) (h' : Sol n rs c' O') : O'.kind = 3 ↔ O.kind = 3 := by
  cases h with
  | emp D Y hY =>
    cases h' with
    | emp => exact Iff.rfl
    | opt D' X' Y' val hX' => exact (no_refu hX' hY).elim
    | unb D' X' Z' hX' => exact (no_refu hX' hY).elim
  | opt D X Y val hX =>
    cases h' with
    | emp D' Y' hY' => exact (no_refu hX hY').elim
    | opt => exact Iff.rfl
    | unb => exact ⟨fun h => absurd (show (2 : Int) = 3 from h) (by decide), fun h => absurd (show (1 : Int) = 3 from h) (by decide)⟩
  | unb D X Z hX =>
    cases h' with
    | emp D' Y' hY' => exact (no_refu hX hY').elim
    | opt => exact ⟨fun h => absurd (show (1 : Int) = 3 from h) (by decide), fun h => absurd (show (2 : Int) = 3 from h) (by decide)⟩
    | unb => exact Iff.rfl
theorem sol_point {n : Nat} {rs : List Rw} {c : List Int} {O : Oc} (h : Sol n rs c O) (hl : rs.length ≤ 6) (hk : O.kind ≠ 3) : O.point.length = n ∧ (∀ f ∈ O.point, F9 f) := by
  cases h with
  | opt D X Y val hX hv hY hw b1 b2 b3 b4 => exact ⟨ptl_len .., ptl_F9 hl hX.den b1 b2⟩
  | unb D X Z hX hZ b1 b2 b3 => exact ⟨ptl_len .., ptl_F9 hl hX.den b1 b2⟩
  | emp => exact absurd rfl hk
end Go.Proofs.YtdhmbgogmoaofaaGreat
namespace Go.Proofs.YtdhmbgogmoaofaaGreat
open Go.Own Go.Limbs
attribute [local irreducible] St Ops Go.Own.Fin Ok
end Go.Proofs.YtdhmbgogmoaofaaGreat
