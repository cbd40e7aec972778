/- The proof that LossSteps holds for every input, without conditions: part 5 of 6. -/
import Derived.Test.YtlkdkbdgnjcopaaGreatZ4
namespace Go.Proofs.YtlkdkbdgnjcopaaGreat
open Go.Own Go.Limbs
attribute [local irreducible] Go.Own.Fin Ok Ops St
theorem val_sub_done {a b : Nat} {zs : List Int} {c : Int} (hok : OKL zs) (hzl : zs.length = (limbs a).length) (hb : b ≤ a) (hc0 : 0 ≤ c) (hc1 : c ≤ 1)
    (hv : val zs - c * BB ^ (limbs a).length = pre (limbs a) (limbs a).length - pre (limbs b) (limbs a).length) : trimL zs = limbs (a - b) := by
  have hlb := X8 hb; rw [Zw hok]; rw [ZY (Nat.le_refl _), ZY hlb, Xn, Xn] at hv; have hp : 0 < BB ^ (limbs a).length := Int.pow_pos (by decide); have h1 := YJ hok (limbs a).length; rw [ZY (by omega)] at h1
  have hc : c = 0 := by
    rcases Int.lt_or_le 0 c with hc | hc
    · have : c = 1 := by omega
      subst this; rw [Int.one_mul] at hv; omega
    · omega
  subst hc; rw [Int.zero_mul] at hv
  congr 1; omega
theorem less_step {v c P A B x y d c' K : Int} (h : v - c * P = A - B) (e : x - y - c = d - c' * K) : v + P * d - c' * (P * K) = (A + x * P) - (B + y * P) := by
  have h2 : P * (x - y - c) = P * (d - c' * K) := by rw [e]
  grind
set_option maxHeartbeats 2000000 in
theorem rLess_ok (a b : Nat) (hb : b ≤ a) (hx : (limbs a).length ≤ 1000000) : Ok Tryz.prog 134 [natC a, natC b] (natC (a - b)) := by
  refine Ok.enter Tryz.func134 J _ Tryz.ntmps134 J ?_
  intro S w; refine Qw (Qx fun K hK => ?_); refine Qv J J J (Qj (hK _ _ (Qz (Qw ?_)))); clear hK K; refine Qx (fun K hK => ?_); refine Qv J J J (Qj (hK _ _ (Qz (Qw ?_)))); clear hK K; refine Qx (fun K hK => ?_); refine Qv J J J (Qj (hK _ _ (Qz (Qw (Qw ?_))))); clear hK K; refine Qx (fun K hK => ?_); refine Qv J J J (Qj (hK _ _ (Qz (Q5 ?_)))); clear hK K
  refine Xg 5 0 3 1 J J J ?_
  skip
  refine Xx (α := Nat × List Int × Int) (fun s => s.1 ≤ (limbs a).length ∧ s.2.1.length = s.1 ∧ OKL s.2.1 ∧ 0 ≤ s.2.2 ∧ s.2.2 ≤ 1 ∧ val s.2.1 - s.2.2 * BB ^ s.1 = pre (limbs a) s.1 - pre (limbs b) s.1)
    (fun s => [(0, .ct (natC a)), (1, .ct (natC b)), (5, .own 0), (6, .ct (intC s.2.2)), (7, .ct (intC s.1))])
    (fun s => [(0, .row 3 1 (ints s.2.1))])
    (fun s => (limbs a).length - s.1) (0, [], 0) ⟨Nat.zero_le _, rfl, OKL.nil, by decide, by decide, by simp [val, Z0]⟩ (by exact QX J ⟨rfl, rfl, rfl, rfl, rfl, trivial⟩) ?_
  rintro ⟨i, zs, c⟩ ⟨hi, hz, hok, hc0, hc1, hv⟩
  dsimp only at hi hz hok hc0 hc1 hv ⊢; refine Qw (Qw (Qx fun K hK => ?_)); refine Qq J J J (Qq J J J (Qb J J sNat.und (List.length_map ..) J (Qk ilss J J J J (Qj (hK _ _ (Qz ?_)))))); clear hK K; refine Q2 J (fun h => ?_) (fun h => ?_)
  · have b1 := (X2 a).get i; have b2 := (X2 b).get i; simp only [BB] at b1 b2; have e2 : (i : Int).toNat = i := Int.toNat_natCast i; refine Q1 (Qz (Qw (Q5 (Qw ?_)))); refine Xw mixed 11 (.p 0 (.p 1 (.p 2 (.p 4 (.p 5 (.p 8 (.f 3 (.m 6 (.p 7 (.p 9 (.p 10 .done))))))))))) (by kernel_rfl) (fun K hK => ?_); refine Qq J J J (Qq J J J (Qh J J J sNat (by omega) (X9 (by omega) (by omega)) J ?_)); refine Qq J J J (Qq J J J (Qq J J J (XQ J J J lInt J ?_))); rw [e2]; skip; refine QW gorlimb (Y8 (limbs b) i) J J J J (Qk (isub (by omega) (by omega)) J J J J ?_)
    refine Qk (isub (by omega) (by omega)) J J J J ?_
    refine Qv J J J (Qj (hK _ _ (Qz (Qw ?_)))); clear hK K; refine Qx (fun K hK => ?_); refine Qv J J J (Qj (hK _ _ (Qz (Qw (Qw ?_))))); clear hK K; refine Qx (fun K hK => ?_); refine Qq J J J (Qk ilss J J J J (Qj (hK _ _ (Qz ?_)))); clear hK K; refine Q2 J (fun h2 => ?_) (fun h2 => ?_)
    · refine Qw (Qx fun K hK => ?_); refine Qq J J J (Qk (iadd (by omega) (by omega)) J J J J ?_); refine Qv J J J (Qj (hK _ _ (Qz ?_))); clear hK K; refine Qx (fun K hK => ?_); refine Qv J J J (Qj (hK _ _ (Qz ?_))); clear hK K; refine Qx (fun K hK => ?_); refine Qq J J J (Qq J J J (Zj J J sNat J J J (Qt zs.length (ints (zs ++ [(limbs a).getD i 0 - (limbs b).getD i 0 - c + 1073741824])) J J J J sNat (by simp [ints]) J (by omega) (by omega) (by simp [ints]) J ?_))); refine Qv J J J (Qj (hK _ _ (Qz ?_))); clear hK K; refine Qx (fun K hK => ?_); refine Qq J J J (Qk (iadd (by omega) (by omega)) J J J J ?_); refine Qv J J J (Qj (hK _ _ (Q4 ?_))); clear hK K; refine Q8 (i + 1, zs ++ [(limbs a).getD i 0 - (limbs b).getD i 0 - c + 1073741824], 1) (by dsimp only; omega) ⟨by dsimp only; omega, by simp [hz], ?_, by show (0 : Int) ≤ 1; decide, by show (1 : Int) ≤ 1; decide, ?_⟩ (by exact QX J ⟨rfl, rfl, rfl, rfl, by simp only [Int.natCast_add]; rfl, trivial⟩)
      all_goals dsimp only
      · exact hok.append (OKL.cons (by simp only [BB]; omega) OKL.nil)
      · rw [YQ, hz, X4, X4, Int.pow_succ]; simp only [val, Int.mul_zero, Int.add_zero]; exact less_step hv (by simp only [BB]; omega)
    · refine Q1 (Qz (Qx fun K hK => ?_)); refine Qq J J J (Qq J J J (Zj J J sNat J J J (Qt zs.length (ints (zs ++ [(limbs a).getD i 0 - (limbs b).getD i 0 - c])) J J J J sNat (by simp [ints]) J (by omega) (by omega) (by simp [ints]) J ?_))); refine Qv J J J (Qj (hK _ _ (Qz ?_))); clear hK K; refine Qx (fun K hK => ?_); refine Qq J J J (Qk (iadd (by omega) (by omega)) J J J J ?_); refine Qv J J J (Qj (hK _ _ (Q4 ?_))); clear hK K; refine Q8 (i + 1, zs ++ [(limbs a).getD i 0 - (limbs b).getD i 0 - c], 0) (by dsimp only; omega) ⟨by dsimp only; omega, by simp [hz], ?_, by show (0 : Int) ≤ 0; decide, by show (0 : Int) ≤ 1; decide, ?_⟩ (by exact QX J ⟨rfl, rfl, rfl, rfl, by simp only [Int.natCast_add]; rfl, trivial⟩)
      all_goals dsimp only
      · exact hok.append (OKL.cons (by simp only [BB]; omega) OKL.nil)
      · rw [YQ, hz, X4, X4, Int.pow_succ]; simp only [val, Int.mul_zero, Int.add_zero]; exact less_step hv (by simp only [BB]; omega)
  · have hi' : i = (limbs a).length := by omega
    subst hi'; have e4 := val_sub_done hok hz hb hc0 hc1 hv; refine Zi 0 _ J (Zz _ _) noBor_sub (Qs (Qz (Qw (Qx fun K hK => ?_)))); refine Qq J J J (QW gorTrim (rTrim_ok zs (by omega)) J J J J ?_); rw [e4]; refine Qv J J J (Qj (hK _ _ (Qz (Q0 ?_)))); clear hK K; refine QU [_] rfl (Qu J QQ) J J
theorem gorLess : InGo Tryz.prog 134 := InGo.of Tryz.func134 (by kernel_rfl) (by kernel_rfl)
set_option maxHeartbeats 2000000 in
theorem rhalf_ok (a : Nat) (hl : (limbs a).length ≤ 1000000) : Ok Tryz.prog 132 [natC a] (natC (a / 2)) := by
  refine Ok.enter Tryz.func132 J _ Tryz.ntmps132 J ?_
  intro S w; refine Qw (Qx fun K hK => ?_); refine Qv J J J (Qj (hK _ _ (Qz (Qw ?_)))); clear hK K; refine Qx (fun K hK => ?_); refine Qq J J J (Qb J J sNat.und (List.length_map ..) J (Ops.make 0 (limbs a).length J J J J sNat (by omega) (by omega) J J J ?_)); rw [ints_made]; refine Qv J J J (Qj (hK _ _ (Qz (Qw ?_)))); clear hK K; refine Qx (fun K hK => ?_); refine Qv J J J (Qj (hK _ _ (Qz (Qw (Qw ?_))))); clear hK K; refine Qx (fun K hK => ?_); refine Qq J J J (Qb J J sNat.und (List.length_map ..) J (Qk (isub (by omega) (by omega)) J J J J ?_)); refine Qv J J J (Qj (hK _ _ (Qz (Q5 ?_)))); clear hK K
  refine Xx (α := Nat × List Int × Int) (fun s => s.1 ≤ (limbs a).length ∧ s.2.1.length = (limbs a).length ∧ OKL s.2.1 ∧ (∀ j, j < s.1 → s.2.1.getD j 0 = 0) ∧ 0 ≤ s.2.2 ∧ s.2.2 < 2 ∧ val s.2.1 * 2 + s.2.2 * BB ^ s.1 = val (limbs a) - pre (limbs a) s.1)
    (fun s => [(0, .ct (natC a)), (3, .own 0), (4, .ct (intC s.2.2)), (5, .ct (intC ((s.1 : Int) - 1)))])
    (fun s => [(0, .row 3 1 (ints s.2.1))]) (fun s => s.1) ((limbs a).length, List.replicate (limbs a).length 0, 0) ⟨Nat.le_refl _, by simp, OKL.zeros _, ?_, Int.le_refl _, by show (0 : Int) < 2; decide, ?_⟩ (by exact QX J ⟨rfl, rfl, rfl, rfl, trivial⟩) ?_
  · intro j _; simp [List.getD_eq_getElem?_getD, List.getElem?_replicate]; split <;> rfl
  · dsimp only; rw [YU, ZY (Nat.le_refl _)]; simp
  rintro ⟨q, zs, rest⟩ ⟨hq, hzl, hok, hz, hr0, hr1, hv⟩
  dsimp only at hq hzl hok hz hr0 hr1 hv ⊢; refine Qw (Qw (Qx fun K hK => ?_)); refine Qq J J J (Qk igeq J J J J (Qj (hK _ _ (Qz ?_)))); clear hK K; refine Q2 J (fun h => ?_) (fun h => ?_)
  · obtain ⟨i, rfl⟩ : ∃ i, q = i + 1 := ⟨q - 1, by omega⟩
    have e1 : (((i + 1 : Nat) : Int) - 1) = (i : Int) := by omega
    have e2 : (i : Int).toNat = i := Int.toNat_natCast i
    have e3 : (i : Int).toNat * 1 = i := by omega
    have bx := (X2 a).get i; simp only [BB] at bx; rw [e1]; refine Q1 (Qz (Qw (Q5 (Qw (Qx fun K hK => ?_))))); refine Qq J J J (Qq J J J (Qh J J J sNat (by omega) (X9 (by omega) (by omega)) J ?_)); refine XQ J J J lInt J (Qq J J J (Qk (imul (by omega) (by omega)) J J J J ?_)); rw [e2]
    refine Qk (iadd (by omega) (by omega)) J J J J ?_
    refine Qv J J J (Qj (hK _ _ (Qz (Qw ?_)))); clear hK K; refine Qx (fun K hK => ?_); refine Qq J J J (Qq J J J (Qq J J J (Qk (iquo (by omega) (by omega) (by omega)) J J J J ?_))); rw [show (limbs a).getD i 0 + rest * 1073741824 = rest * 1073741824 + (limbs a).getD i 0 from Int.add_comm _ _]; skip
    refine Xu (limbs a).length J J J (by simp [ints]; omega) J sNat (by omega) (by omega) J ?_
    rw [e3]
    refine XY J J J J J zInt (by simp [Ent.cs, ints]; omega) ?_
    simp only [Ent.setc, Z8]; refine Qj (hK _ _ (Qz ?_)); clear hK K; refine Qx (fun K hK => ?_); refine Qq J J J (Qk (irem (by omega) (by omega)) J J J J ?_); refine Qv J J J (Qj (hK _ _ (Qz ?_))); clear hK K; refine Qx (fun K hK => ?_); refine Qq J J J (Qk (isub (by omega) (by omega)) J J J J ?_); refine Qv J J J (Qj (hK _ _ (Q4 ?_))); clear hK K; refine Q8 (i, zs.set i ((rest * 1073741824 + (limbs a).getD i 0) / 2), (rest * 1073741824 + (limbs a).getD i 0) % 2) (by dsimp only; omega) ⟨by dsimp only; omega, by simp [hzl], ?_, ?_, by dsimp only; omega, by dsimp only; omega, ?_⟩ (by exact QX J ⟨rfl, rfl, rfl, rfl, trivial⟩)
    all_goals dsimp only
    · exact hok.set _ (by simp only [BB]; omega)
    · intro j hj; rw [getD_set (by omega), if_neg (by omega)]; exact hz j (by omega)
    · rw [val_set (by omega), hz i (by omega), Int.sub_zero]; exact top_step hv
  · have hq0 : q = 0 := by omega
    subst hq0
    have e4 : val zs * 2 + rest = a := by rw [Z0, Xn] at hv; simpa using hv
    have e5 : (val zs).toNat = a / 2 := by omega
    refine Zi 0 _ J (Zz _ _) noBor_sub (Qs (Qz (Qw (Qx fun K hK => ?_)))); refine Qq J J J (QW gorTrim (rTrim_ok zs (by omega)) J J J J ?_); rw [Zw hok, e5]; refine Qv J J J (Qj (hK _ _ (Qz (Q0 ?_)))); clear hK K; refine QU [_] rfl (Qu J QQ) J J
theorem gorhalf : InGo Tryz.prog 132 := InGo.of Tryz.func132 (by kernel_rfl) (by kernel_rfl)
set_option maxHeartbeats 4000000 in
theorem rTimes_ok (a b : Nat) (hx : (limbs a).length + (limbs b).length ≤ 1000000) : Ok Tryz.prog 135 [natC a, natC b] (natC (a * b)) := by
  refine Ok.enter Tryz.func135 Y _ Tryz.ntmps135 Y ?_
  intro S w; refine Qw (Qx fun K hK => ?_); refine Qv Y Y Y (Qj (hK _ _ (Qz (Qw ?_)))); clear hK K; refine Qx (fun K hK => ?_); refine Qq Y Y Y (Qb Y Y sNat.und (List.length_map ..) Y (Qq Y Y Y (Qb Y Y sNat.und (List.length_map ..) Y (Qk (iadd (by omega) (by omega)) Y Y Y Y ?_))))
  refine Ops.make 0 ((limbs a).length + (limbs b).length) Y Y Y (by omega) sNat (by omega) (by omega) Y Y Y ?_
  rw [ints_made]; refine Qv Y Y Y (Qj (hK _ _ (Qz (Qw (Qw ?_))))); clear hK K; refine Qx (fun K hK => ?_); refine Qv Y Y Y (Qj (hK _ _ (Qz (Q5 ?_)))); clear hK K
  refine Xx (α := Nat × List Int) (fun s => s.1 ≤ (limbs a).length ∧ s.2.length = (limbs a).length + (limbs b).length ∧ OKL s.2 ∧ (∀ j, s.1 + (limbs b).length ≤ j → s.2.getD j 0 = 0) ∧ val s.2 = pre (limbs a) s.1 * b)
    (fun s => [(0, .ct (natC a)), (1, .ct (natC b)), (5, .own 0), (6, .ct (intC s.1))])
    (fun s => [(0, .row 3 1 (ints s.2))])
    (fun s => (limbs a).length - s.1) (0, List.replicate ((limbs a).length + (limbs b).length) 0) ⟨Nat.zero_le _, by simp, OKL.zeros _, ?_, ?_⟩ (by exact QX Y ⟨rfl, rfl, rfl, rfl, trivial⟩) ?_
  · intro j _; simp [List.getD_eq_getElem?_getD, List.getElem?_replicate]; split <;> rfl
  · rw [Z0, YU]; simp
  rintro ⟨i, out⟩ ⟨hi, hlen, hok, hz, hv⟩
  dsimp only at hi hlen hok hz hv ⊢; refine Qw (Qw (Qx fun K hK => ?_)); refine Qq Y Y Y (Qq Y Y Y (Qb Y Y sNat.und (List.length_map ..) Y (Qk ilss Y Y Y Y (Qj (hK _ _ (Qz ?_)))))); clear hK K; refine Q2 Y (fun h => ?_) (fun h => ?_)
  · have bx := (X2 a).get i; have eix : (i : Int).toNat = i := Int.toNat_natCast i; refine Q1 (Qz (Qw (Q5 (Qw (Qx fun K hK => ?_))))); refine Qv Y Y Y (Qj (hK _ _ (Qz (Qw ?_)))); clear hK K; refine Qx (fun K hK => ?_); refine Qv Y Y Y (Qj (hK _ _ (Qz (Q5 ?_)))); clear hK K
    refine Xx (α := Nat × List Int × Int) (fun s => (s.1 ≤ (limbs b).length ∨ s.2.2 = 0) ∧ s.1 ≤ (limbs b).length + 1 ∧ s.2.1.length = (limbs a).length + (limbs b).length ∧ OKL s.2.1 ∧ (∀ j, i + (limbs b).length + 1 ≤ j → s.2.1.getD j 0 = 0) ∧ (s.1 ≤ (limbs b).length → s.2.1.getD (i + (limbs b).length) 0 = 0) ∧ 0 ≤ s.2.2 ∧ s.2.2 < BB ∧
        val s.2.1 + s.2.2 * BB ^ (i + s.1) = val out + (limbs a).getD i 0 * pre (limbs b) s.1 * BB ^ i)
      (fun s => [(0, .ct (natC a)), (1, .ct (natC b)), (5, .own 0), (6, .ct (intC i)), (7, .ct (intC s.2.2)), (8, .ct (intC s.1))])
      (fun s => [(0, .row 3 1 (ints s.2.1))])
      (fun s => (limbs b).length + 2 - s.1) (0, out, 0) ⟨.inr Y, Nat.zero_le _, hlen, hok, fun j hj => hz j (by omega), fun _ => hz _ (Nat.le_refl _), Int.le_refl _, by show (0 : Int) < BB; decide, by rw [Z0]; simp⟩ (by exact QX Y ⟨rfl, rfl, rfl, rfl, rfl, rfl, trivial⟩) ?_
    rintro ⟨q, zs, c⟩ ⟨hqc, hq, hzl, hzok, hzz, hzt, hc0, hc1, hzv⟩
    dsimp only at hqc hq hzl hzok hzz hzt hc0 hc1 hzv ⊢
    have by' := (X2 b).get q
    have bz := hzok.get (i + q)
    have bm := mul_bd bx by'
    have hpast := getD_past (xs := limbs b) (i := q); simp only [BB] at bz hc1 bx; have eq1 : (q : Int).toNat = q := Int.toNat_natCast q
    have eiq : ((i : Int) + q).toNat * 1 = i + q := by omega
    have step : q ≤ (limbs b).length →
        ((limbs b).length + 2 - (q + 1) < (limbs b).length + 2 - q) ∧ ((q + 1 ≤ (limbs b).length ∨ (zs.getD (i + q) 0 + (limbs a).getD i 0 * (limbs b).getD q 0 + c) / 1073741824 = 0) ∧ q + 1 ≤ (limbs b).length + 1 ∧ (zs.set (i + q) ((zs.getD (i + q) 0 + (limbs a).getD i 0 * (limbs b).getD q 0 + c) % 1073741824)).length = (limbs a).length + (limbs b).length ∧ OKL (zs.set (i + q) ((zs.getD (i + q) 0 + (limbs a).getD i 0 * (limbs b).getD q 0 + c) % 1073741824)) ∧ (∀ j, i + (limbs b).length + 1 ≤ j → (zs.set (i + q) ((zs.getD (i + q) 0 + (limbs a).getD i 0 * (limbs b).getD q 0 + c) % 1073741824)).getD j 0 = 0) ∧ (q + 1 ≤ (limbs b).length → (zs.set (i + q) ((zs.getD (i + q) 0 + (limbs a).getD i 0 * (limbs b).getD q 0 + c) % 1073741824)).getD (i + (limbs b).length) 0 = 0) ∧ 0 ≤ (zs.getD (i + q) 0 + (limbs a).getD i 0 * (limbs b).getD q 0 + c) / 1073741824 ∧ (zs.getD (i + q) 0 + (limbs a).getD i 0 * (limbs b).getD q 0 + c) / 1073741824 < BB ∧
        val (zs.set (i + q) ((zs.getD (i + q) 0 + (limbs a).getD i 0 * (limbs b).getD q 0 + c) % 1073741824)) + (zs.getD (i + q) 0 + (limbs a).getD i 0 * (limbs b).getD q 0 + c) / 1073741824 * BB ^ (i + (q + 1)) = val out + (limbs a).getD i 0 * pre (limbs b) (q + 1) * BB ^ i) := by
      intro hqb; refine ⟨by omega, ?_, by omega, by simp [hzl], hzok.set _ (by simp only [BB]; omega), ?_, ?_, by omega, by simp only [BB]; omega, ?_⟩
      · rcases Nat.lt_or_ge q (limbs b).length with h5 | h5
        · exact .inl h5
        · have h6 : q = (limbs b).length := by omega
          right; have := hzt hqb; rw [← h6] at this; rw [this, hpast h5, Int.mul_zero]; omega
      · intro j hj; rw [getD_set (by omega), if_neg (by omega)]; exact hzz j hj
      · intro h5; rw [getD_set (by omega), if_neg (by omega)]; exact hzt hqb
      · rw [val_set (by omega), X4, show i + (q + 1) = (i + q) + 1 by omega, Int.pow_succ, Int.pow_add]; rw [Int.pow_add] at hzv; have e := Int.mul_ediv_add_emod (zs.getD (i + q) 0 + (limbs a).getD i 0 * (limbs b).getD q 0 + c) 1073741824
        clear hpast hzt hzz hqc bm by' bz hz
        simp only [BB] at *; generalize (zs.getD (i + q) 0 + (limbs a).getD i 0 * (limbs b).getD q 0 + c) / 1073741824 = Q at *; generalize (zs.getD (i + q) 0 + (limbs a).getD i 0 * (limbs b).getD q 0 + c) % 1073741824 = M at *; generalize (1073741824 : Int) ^ i = I at *; generalize (1073741824 : Int) ^ q = J at *; generalize zs.getD (i + q) 0 = z at *; generalize (limbs a).getD i 0 = x at *; generalize (limbs b).getD q 0 = y at *; generalize pre (limbs b) q = pb at *; generalize val zs = vz at *; generalize val out = vo at *
        grind
    have fin : ¬ ((q : Int) < (limbs b).length) → ¬ (0 < c) → (i + 1 ≤ (limbs a).length ∧ zs.length = (limbs a).length + (limbs b).length ∧ OKL zs ∧ (∀ j, i + 1 + (limbs b).length ≤ j → zs.getD j 0 = 0) ∧ val zs = pre (limbs a) (i + 1) * b) := by
      intro g1 g2; refine ⟨by omega, hzl, hzok, fun j hj => hzz j (by omega), ?_⟩
      have hc : c = 0 := by omega
      rw [hc, Int.zero_mul, Int.add_zero, ZY (xs := limbs b) (by omega), Xn, hv] at hzv; rw [hzv, X4]; grind
    refine Qw (Qw (Qx fun K hK => ?_)); refine Qq Y Y Y (Qq Y Y Y (Qb Y Y sNat.und (List.length_map ..) Y (Qk ilss Y Y Y Y (Qq Y Y Y (Q7 26 Y (fun g1 => ?_) (fun g1 => ?_))))))
    · have st := step (by omega); clear step fin; refine Qy Y Y Y (Qy Y Y Y (QJ Y Y Y Y (Qj (hK _ _ (Qz (Qp Y (Q1 (Qz (Qw (Q5 (Qw ?_))))))))))); clear hK K; refine Xw mixed 18 (.p 0 (.p 1 (.p 2 (.p 3 (.p 4 (.p 6 (.p 7 (.p 8 (.p 10 (.p 11 (.p 15 (.f 5 (.f 9 (.m 12 (.p 13 (.p 14 (.p 16 (.p 17 .done)))))))))))))))))) (by kernel_rfl) (fun K hK => ?_); refine Qq Y Y Y (Qq Y Y Y (Qq Y Y Y (Qk (iadd (by omega) (by omega)) Y Y Y Y ?_)))
      refine Xu ((limbs a).length + (limbs b).length) Y Y Y (by simp [ints]; omega) Y sNat (by omega) (by omega) Y ?_
      rw [eiq]; refine Qq Y Y Y (Qq Y Y Y (Qh Y Y Y sNat (by omega) (X9 (by omega) (by omega)) Y ?_)); refine Qq Y Y Y (Qq Y Y Y (Qq Y Y Y ?_)); rw [eix]
      refine QY Y Y Y Y (Zd (by omega)) lInt Y ?_
      refine XQ Y Y Y lInt Y (QW gorlimb (Y8 (limbs b) q) Y Y Y Y (Qk (imul (by omega) (by omega)) Y Y Y Y ?_))
      refine Qk (iadd (by omega) (by omega)) Y Y Y Y ?_
      refine Qk (iadd (by omega) (by omega)) Y Y Y Y ?_
      refine Qv Y Y Y (Qj (hK _ _ (Qz (Qw ?_)))); clear hK K; refine Qx (fun K hK => ?_); refine Qq Y Y Y (Qq Y Y Y (Qq Y Y Y (Qk (iadd (by omega) (by omega)) Y Y Y Y ?_))); refine Qq Y Y Y (Qk (irem (by omega) (by omega)) Y Y Y Y ?_)
      refine Xu ((limbs a).length + (limbs b).length) Y Y Y (by simp [ints]; omega) Y sNat (by omega) (by omega) Y ?_
      rw [eiq]
      refine XY Y Y Y Y Y zInt (by simp [Ent.cs, ints]; omega) ?_
      simp only [Ent.setc, Z8]; refine Qj (hK _ _ (Qz ?_)); clear hK K; refine Qx (fun K hK => ?_); refine Qq Y Y Y (Qk (iquo (by omega) (by omega) (by omega)) Y Y Y Y ?_); refine Qv Y Y Y (Qj (hK _ _ (Qz ?_))); clear hK K; refine Qx (fun K hK => ?_); refine Qq Y Y Y (Qk (iadd (by omega) (by omega)) Y Y Y Y ?_); refine Qv Y Y Y (Qj (hK _ _ (Q4 ?_))); clear hK K; refine Q8 (q + 1, zs.set (i + q) ((zs.getD (i + q) 0 + (limbs a).getD i 0 * (limbs b).getD q 0 + c) % 1073741824), (zs.getD (i + q) 0 + (limbs a).getD i 0 * (limbs b).getD q 0 + c) / 1073741824) st.1 st.2 (by exact QX Y ⟨rfl, rfl, rfl, rfl, rfl, by simp only [Int.natCast_add]; rfl, trivial⟩)
    · refine Qq Y Y Y (Qk igtr Y Y Y Y (QK Y Y Y Y (Qj (hK _ _ (Qz ?_))))); clear hK K; refine Q2 Y (fun g2 => ?_) (fun g2 => ?_)
      · have st := step (by omega); clear step fin; refine Q1 (Qz (Qw (Q5 (Qw ?_)))); refine Xw mixed 18 (.p 0 (.p 1 (.p 2 (.p 3 (.p 4 (.p 6 (.p 7 (.p 8 (.p 10 (.p 11 (.p 15 (.f 5 (.f 9 (.m 12 (.p 13 (.p 14 (.p 16 (.p 17 .done)))))))))))))))))) (by kernel_rfl) (fun K hK => ?_); refine Qq Y Y Y (Qq Y Y Y (Qq Y Y Y (Qk (iadd (by omega) (by omega)) Y Y Y Y ?_)))
        refine Xu ((limbs a).length + (limbs b).length) Y Y Y (by simp [ints]; omega) Y sNat (by omega) (by omega) Y ?_
        rw [eiq]; refine Qq Y Y Y (Qq Y Y Y (Qh Y Y Y sNat (by omega) (X9 (by omega) (by omega)) Y ?_)); refine Qq Y Y Y (Qq Y Y Y (Qq Y Y Y ?_)); rw [eix]
        refine QY Y Y Y Y (Zd (by omega)) lInt Y ?_
        refine XQ Y Y Y lInt Y (QW gorlimb (Y8 (limbs b) q) Y Y Y Y (Qk (imul (by omega) (by omega)) Y Y Y Y ?_))
        refine Qk (iadd (by omega) (by omega)) Y Y Y Y ?_
        refine Qk (iadd (by omega) (by omega)) Y Y Y Y ?_
        refine Qv Y Y Y (Qj (hK _ _ (Qz (Qw ?_)))); clear hK K; refine Qx (fun K hK => ?_); refine Qq Y Y Y (Qq Y Y Y (Qq Y Y Y (Qk (iadd (by omega) (by omega)) Y Y Y Y ?_))); refine Qq Y Y Y (Qk (irem (by omega) (by omega)) Y Y Y Y ?_)
        refine Xu ((limbs a).length + (limbs b).length) Y Y Y (by simp [ints]; omega) Y sNat (by omega) (by omega) Y ?_
        rw [eiq]
        refine XY Y Y Y Y Y zInt (by simp [Ent.cs, ints]; omega) ?_
        simp only [Ent.setc, Z8]; refine Qj (hK _ _ (Qz ?_)); clear hK K; refine Qx (fun K hK => ?_); refine Qq Y Y Y (Qk (iquo (by omega) (by omega) (by omega)) Y Y Y Y ?_); refine Qv Y Y Y (Qj (hK _ _ (Qz ?_))); clear hK K; refine Qx (fun K hK => ?_); refine Qq Y Y Y (Qk (iadd (by omega) (by omega)) Y Y Y Y ?_); refine Qv Y Y Y (Qj (hK _ _ (Q4 ?_))); clear hK K; refine Q8 (q + 1, zs.set (i + q) ((zs.getD (i + q) 0 + (limbs a).getD i 0 * (limbs b).getD q 0 + c) % 1073741824), (zs.getD (i + q) 0 + (limbs a).getD i 0 * (limbs b).getD q 0 + c) / 1073741824) st.1 st.2 (by exact QX Y ⟨rfl, rfl, rfl, rfl, rfl, by simp only [Int.natCast_add]; rfl, trivial⟩)
      · have fe := fin g1 g2; clear step fin; refine Qs (Qz (Qx fun K hK => ?_)); refine Qq Y Y Y (Qk (iadd (by omega) (by omega)) Y Y Y Y ?_); refine Qv Y Y Y (Qj (hK _ _ (Q4 ?_))); clear hK K; refine Q8 (i + 1, zs) (by dsimp only; omega) fe (by exact QX Y ⟨rfl, rfl, rfl, by simp only [Int.natCast_add]; rfl, trivial⟩)
  · have hi' : i = (limbs a).length := by omega
    have e4 : trimL out = limbs (a * b) := by
      rw [Zw hok, hv, hi', ZY (Nat.le_refl _), Xn]
      congr 1
    refine Zi 0 _ Y (Zz _ _) noBor_sub (Qs (Qz (Qw (Qx fun K hK => ?_)))); refine Qq Y Y Y (QW gorTrim (rTrim_ok out (by omega)) Y Y Y Y ?_); rw [e4]; refine Qv Y Y Y (Qj (hK _ _ (Qz (Q0 ?_)))); clear hK K; refine QU [_] rfl (Qu Y QQ) Y Y
theorem gorTimes : InGo Tryz.prog 135 := InGo.of Tryz.func135 (by kernel_rfl) (by kernel_rfl)
theorem uU64 : Tryz.prog.underlying 153 = some (.int .u64) := Tryz.underlying153
theorem uI64 : Tryz.prog.underlying 3 = some (.int .i64) := Tryz.underlying3
abbrev wordC (x : Int) : CT := .ex (.int .u64 x)
set_option maxHeartbeats 2000000 in
theorem rWord_ok (n : Nat) (hn : n < 18446744073709551616) : Ok Tryz.prog 99 [wordC n] (natC n) := by
  refine Ok.enter Tryz.func99 J _ Tryz.ntmps99 J ?_
  intro S w; refine Qw (Qx fun K hK => ?_); refine Qv J J J (Qj (hK _ _ (Qz (Qw ?_)))); clear hK K; refine Qx (fun K hK => ?_); refine Qv J J J (Qj (hK _ _ (Qz (Qw (Q5 ?_))))); clear hK K
  refine Xg 3 0 3 1 J J J ?_
  skip
  refine Xx (α := Nat × List Int) (fun s => s.1 ≤ n ∧ limbs n = s.2 ++ limbs s.1)
    (fun s => [(0, .ct (wordC s.1)), (3, .own 0)]) (fun s => [(0, .row 3 1 (ints s.2))]) (fun s => s.1) (n, []) ⟨Nat.le_refl _, rfl⟩ (by exact QX J ⟨rfl, rfl, trivial⟩) ?_
  rintro ⟨m, zs⟩ ⟨hm, hv⟩
  dsimp only at hm hv ⊢
  have hl : zs.length ≤ 64 := by
    have h1 := congrArg List.length hv; have h2 := XW (n := n) (k := 3) (by omega); simp at h1; omega
  refine Qw (Qw (Qx fun K hK => ?_)); refine Qq J J J (Qk igtr J J J J (Qj (hK _ _ (Qz ?_)))); clear hK K; refine Q2 J (fun h => ?_) (fun h => ?_)
  · refine Q1 (Qz (Qw (Q5 (Qx fun K hK => ?_)))); refine Qq J J J (Qq J J J (Qk (urem (by omega) (by omega)) J J J J ?_))
    refine Xe J J uU64 uI64 (Z2 (by omega) (by omega)) J ?_
    refine Zj J J sNat J J J (Qt zs.length (ints (zs ++ [(m : Int) % 1073741824])) J J J J sNat (by simp [ints]) J (by omega) (by omega) (by simp [ints]) J ?_); refine Qv J J J (Qj (hK _ _ (Qz ?_))); clear hK K; refine Qx (fun K hK => ?_); refine Qq J J J (Qk (uquo (by omega) (by omega) (by omega)) J J J J ?_); refine Qv J J J (Qj (hK _ _ (Q4 ?_))); clear hK K
    refine Q8 (m / 1073741824, zs ++ [(m : Int) % 1073741824]) (by dsimp only; omega) ⟨by dsimp only; omega, ?_⟩ ?_
    all_goals dsimp only
    · rw [hv, limbs_pos (n := m) (by omega)]; simp
    · exact QX J ⟨by rw [Int.natCast_ediv]; rfl, rfl, trivial⟩
  · have : m = 0 := by omega
    subst this; rw [limbs_zero, List.append_nil] at hv; subst hv; refine Zi 0 _ J (Zz _ _) noBor_sub (Qs (Qz (Qw (Qx fun K hK => ?_)))); refine Qq J J J (Qv J J J (Qj (hK _ _ (Qz (Q0 ?_))))); clear hK K; refine QU [_] rfl (Qu J QQ) J J
theorem gorWord : InGo Tryz.prog 99 := InGo.of Tryz.func99 (by kernel_rfl) (by kernel_rfl)
theorem cmpI_le {a b : Int} : cmpI a b ≤ 0 ↔ a ≤ b := by unfold cmpI; split <;> (try split) <;> omega
theorem rTimes_one (b m : Nat) (h0 : 0 < m) (h1 : m < 1073741824) (hl : (limbs b).length ≤ 100000) : Ok Tryz.prog 135 [natC b, .fr (sliceT 1 [[intC m]])] (natC (b * m)) := by
  have h := rTimes_ok b m (by rw [Zb h0 h1]; simp; omega)
  have e : natC m = .fr (sliceT 1 [[intC m]]) := by show intsC (limbs m) = _; rw [Zb h0 h1]; rfl
  rw [← e]; exact h
theorem split_step {v b r R A p x P d : Int} (K : Int) (hR : R = r * K + x) (hv : v * b + r * (P * K) = A - (p + x * P)) : (v + d * P) * b + (R - b * d) * P = A - p := by
  subst hR; grind
theorem len_lt_mul {R b k : Nat} (h : (limbs b).length ≤ k) (hR : R < b * 1073741824) : (limbs R).length ≤ k + 1 := by
  refine XW ?_
  rw [Nat.pow_succ]; exact Nat.lt_trans hR (Nat.mul_lt_mul_of_pos_right (Xi h) (by decide))
set_option maxHeartbeats 4000000 in
theorem rSplit_ok (a b : Nat) (hb : 0 < b) (la : (limbs a).length ≤ 10000) (lb : (limbs b).length ≤ 10000) : Ok Tryz.prog 98 [natC a, natC b] (.fr (tupT [natC (a / b), natC (a % b)])) := by
  refine Ok.enter Tryz.func98 J _ Tryz.ntmps98 J ?_
  intro S w; refine Qw (Qx fun K hK => ?_); refine Qv J J J (Qv J J J (Qj (hK _ _ (Qz (Qw ?_))))); clear hK K; refine Qx (fun K hK => ?_); refine Qq J J J (Qb J J sNat.und (List.length_map ..) J (Ops.make 0 (limbs a).length J J J J sNat (by omega) (by omega) J J J ?_)); rw [ints_made]; refine Qv J J J (Qj (hK _ _ (Qz (Qw ?_)))); clear hK K; refine Qx (fun K hK => ?_); refine Qv J J J (Qj (hK _ _ (Qz (Qw (Qw ?_))))); clear hK K; refine Qx (fun K hK => ?_); refine Qq J J J (Qb J J sNat.und (List.length_map ..) J (Qk (isub (by omega) (by omega)) J J J J ?_)); refine Qv J J J (Qj (hK _ _ (Qz (Q5 ?_)))); clear hK K
  refine St.asNil 7 1 J ?_
  refine Xx (α := Nat × List Int × Nat) (fun s => s.1 ≤ (limbs a).length ∧ s.2.1.length = (limbs a).length ∧ OKL s.2.1 ∧ (∀ j, j < s.1 → s.2.1.getD j 0 = 0) ∧ s.2.2 < b ∧ val s.2.1 * b + s.2.2 * BB ^ s.1 = val (limbs a) - pre (limbs a) s.1)
    (fun s => [(0, .ct (natC a)), (1, .ct (natC b)), (6, .own 0), (7, .ct (natC s.2.2)), (8, .ct (intC ((s.1 : Int) - 1)))])
    (fun s => [(0, .row 3 1 (ints s.2.1))]) (fun s => s.1) ((limbs a).length, List.replicate (limbs a).length 0, 0) ⟨Nat.le_refl _, by simp, OKL.zeros _, ?_, hb, ?_⟩ (by exact QX J ⟨rfl, rfl, rfl, by rw [natC_zero]; rfl, rfl, trivial⟩) ?_
  · intro j _; simp [List.getD_eq_getElem?_getD, List.getElem?_replicate]; split <;> rfl
  · dsimp only; rw [YU, ZY (Nat.le_refl _)]; simp
  rintro ⟨q, zs, rr⟩ ⟨hq, hzl, hok, hz, hrb, hv⟩
  dsimp only at hq hzl hok hz hrb hv ⊢; refine Qw (Qw (Qx fun K hK => ?_)); refine Qq J J J (Qk igeq J J J J (Qj (hK _ _ (Qz ?_)))); clear hK K; refine Q2 J (fun h => ?_) (fun h => ?_)
  · obtain ⟨i, rfl⟩ : ∃ i, q = i + 1 := ⟨q - 1, by omega⟩
    have e1 : (((i + 1 : Nat) : Int) - 1) = (i : Int) := by omega
    have e2 : (i : Int).toNat = i := Int.toNat_natCast i
    have e3 : (i : Int).toNat * 1 = i := by omega
    have bx := (X2 a).get i; simp only [BB] at bx; obtain ⟨R, hR⟩ : ∃ R : Nat, (R : Int) = rr * 1073741824 + (limbs a).getD i 0 := ⟨((rr : Int) * 1073741824 + (limbs a).getD i 0).toNat, by omega⟩; have lrr : (limbs rr).length ≤ 10000 := Nat.le_trans (X8 (Nat.le_of_lt hrb)) lb
    have eT : trimL ((limbs a).getD i 0 :: limbs rr) = limbs R := by
      rw [Zw (OKL.cons (by simp only [BB]; omega) (X2 rr))]; simp only [val]; rw [Xn]; congr 1; simp only [BB]; omega
    have hRb : R < b * 1073741824 := by
      have h1 : (rr + 1) * 1073741824 ≤ b * 1073741824 := Nat.mul_le_mul_right _ (by omega); omega
    have lR : (limbs R).length ≤ 10001 := len_lt_mul lb hRb; rw [X4, Int.pow_succ] at hv; rw [e1]; refine Q1 (Qz (Qw (Q5 (Qw (Qx fun K hK => ?_))))); refine Qq J J J (Qq J J J (Qh J J J sNat (by omega) (X9 (by omega) (by omega)) J ?_))
    refine XQ J J J lInt J ?_
    rw [e2]; refine Ops.lit1E 1 J J sNat J J J J J (Qq J J J (Ops.append 1 (ints ((limbs a).getD i 0 :: limbs rr)) J J J J sNat J ?_ (by simp; omega) (by simp; omega) ?_ J ?_))
    · rw [flat_one]; exact ints_ones _
    · rw [flat_one]; rfl
    refine Zx 1 _ J (Zz _ _) noBor_sub (QW gorTrim (rTrim_ok _ (by simp; omega)) J J J J ?_); rw [eT]; refine Qv J J J (Qj (hK _ _ (Qz (Qw (Qw ?_))))); clear hK K; refine Qx (fun K hK => ?_); refine Qq J J J (Qq J J J (QW gorCompare (rCompare_ok R b (by omega) (by omega)) J J J J ?_)); refine Qk ilss J J J J (Qj (hK _ _ (Qz ?_))); clear hK K; refine Q2 J (fun h2 => ?_) (fun h2 => ?_)
    · rw [cmpI_neg] at h2; refine Qs (Qz (Qx fun K hK => ?_)); refine Qq J J J (Qk (isub (by omega) (by omega)) J J J J ?_); refine Qv J J J (Qj (hK _ _ (Q4 ?_))); clear hK K; refine Q8 (i, zs, R) (by dsimp only; omega) ⟨by dsimp only; omega, hzl, hok, fun j hj => hz j (by dsimp only at hj; omega), by dsimp only; omega, ?_⟩ (by exact QX J ⟨rfl, rfl, rfl, rfl, rfl, trivial⟩); dsimp only; have := split_step (d := 0) BB hR hv
      simpa using this
    · rw [cmpI_neg] at h2; refine Q1 (Qz (Qw (Qx fun K hK => ?_))); refine Qv J J J (Qv J J J (Qj (hK _ _ (Qz (Qw (Q5 ?_)))))); clear hK K
      refine Xx (α := Nat × Nat) (fun s => 1 ≤ s.1 ∧ s.1 ≤ s.2 ∧ s.2 ≤ 1073741823 ∧ b * s.1 ≤ R ∧ R < b * (s.2 + 1))
        (fun s => [(0, .ct (natC a)), (1, .ct (natC b)), (6, .own 0), (7, .ct (natC R)), (8, .ct (intC i)), (9, .ct (intC s.1)), (10, .ct (intC s.2))])
        (fun _ => [(0, .row 3 1 (ints zs))]) (fun s => s.2 - s.1) (1, 1073741823) ⟨Nat.le_refl _, by decide, Nat.le_refl _, by omega, hRb⟩ (by exact QX J ⟨rfl, rfl, rfl, rfl, rfl, rfl, rfl, trivial⟩) ?_
      rintro ⟨lo, hi⟩ ⟨k1, k2, k3, k4, k5⟩
      dsimp only at k1 k2 k3 k4 k5 ⊢; refine Qw (Qw (Qx fun K hK => ?_)); refine Qq J J J (Qq J J J (Qk ilss J J J J (Qj (hK _ _ (Qz ?_))))); clear hK K; refine Q2 J (fun h3 => ?_) (fun h3 => ?_)
      · obtain ⟨m, hm⟩ : ∃ m : Nat, m = (lo + hi + 1) / 2 := ⟨_, rfl⟩
        have em : ((lo : Int) + hi + 1) / 2 = (m : Int) := by omega
        have lbm : (limbs (b * m)).length ≤ 10001 := Nat.le_trans limbs_mul_len (by
          have := XW (n := m) (k := 1) (by omega)
          omega)
        refine Q1 (Qz (Q5 (Qw (Qx fun K hK => ?_)))); refine Qq J J J (Qq J J J (Qk (iadd (by omega) (by omega)) J J J J ?_))
        refine Qk (iadd (by omega) (by omega)) J J J J ?_
        refine Qk (iquo (by omega) (by omega) (by omega)) J J J J ?_
        refine Qv J J J (Qj (hK _ _ (Qz (Qw ?_)))); clear hK K; refine Qx (fun K hK => ?_); refine Qq J J J (Qq J J J ?_); rw [em]; skip; refine Zj J J sNat J J J (QW gorTimes (rTimes_one b m (by omega) (by omega) (by omega)) J J J J ?_); refine Qq J J J (QW gorCompare (rCompare_ok (b * m) R (by omega) (by omega)) J J J J ?_); refine Qk ileq J J J J (Qj (hK _ _ (Qz ?_))); clear hK K; refine Q2 J (fun h4 => ?_) (fun h4 => ?_)
        · rw [cmpI_le] at h4; refine Qx (fun K hK => ?_); refine Qq J J J (Qv J J J (Qj (hK _ _ (Qd (Q4 ?_))))); clear hK K; refine Q8 (m, hi) (by dsimp only; omega) ⟨by dsimp only; omega, by dsimp only; omega, k3, by dsimp only; omega, k5⟩ (by exact QX J ⟨rfl, rfl, rfl, rfl, rfl, rfl, rfl, trivial⟩)
        · rw [cmpI_le] at h4; refine Qx (fun K hK => ?_); refine Qq J J J (Qk (isub (by omega) (by omega)) J J J J ?_); refine Qv J J J (Qj (hK _ _ (Qd (Q4 ?_)))); clear hK K; refine Q8 (lo, m - 1) (by dsimp only; omega) ⟨k1, by dsimp only; omega, by dsimp only; omega, k4, ?_⟩ (by exact QX J ⟨rfl, rfl, rfl, rfl, rfl, rfl, by rw [show ((m - 1 : Nat) : Int) = (m : Int) - 1 by omega]; rfl, trivial⟩); dsimp only; rw [show m - 1 + 1 = m by omega]; omega
      · have h6 : lo = hi := by omega
        subst h6
        have lbm : (limbs (b * lo)).length ≤ 10001 := Nat.le_trans limbs_mul_len (by
          have := XW (n := lo) (k := 1) (by omega)
          omega)
        refine Qs (Qz (Qw (Qx fun K hK => ?_))); refine Qq J J J (Qq J J J (Qq J J J (Xu (limbs a).length J J J (by simp [ints]; omega) J sNat (by omega) (by omega) J ?_))); rw [e3]
        refine XY J J J J J zInt (by simp [Ent.cs, ints]; omega) ?_
        simp only [Ent.setc, Z8]; refine Qj (hK _ _ (Qz ?_)); clear hK K; refine Qx (fun K hK => ?_); refine Qq J J J (Qq J J J (Qq J J J (Zj J J sNat J J J (QW gorTimes (rTimes_one b lo (by omega) (by omega) (by omega)) J J J J ?_))))
        refine QW gorLess (rLess_ok R (b * lo) k4 (by omega)) J J J J ?_
        refine Qv J J J (Qj (hK _ _ (Qz ?_))); clear hK K; refine Qx (fun K hK => ?_); refine Qq J J J (Qk (isub (by omega) (by omega)) J J J J ?_); refine Qv J J J (Qj (hK _ _ (Q4 ?_))); clear hK K; refine Q8 (i, zs.set i (lo : Int), R - b * lo) (by dsimp only; omega) ⟨by dsimp only; omega, by simp [hzl], ?_, ?_, ?_, ?_⟩ (by exact QX J ⟨rfl, rfl, rfl, rfl, rfl, trivial⟩)
        all_goals dsimp only
        · exact hok.set _ (by simp only [BB]; omega)
        · intro j hj; rw [getD_set (by omega), if_neg (by omega)]; exact hz j (by omega)
        · rw [Nat.mul_add] at k5; omega
        · rw [val_set (by omega), hz i (by omega), Int.sub_zero, show ((R - b * lo : Nat) : Int) = (R : Int) - b * lo by rw [Int.natCast_sub k4, Int.natCast_mul]]; exact split_step BB hR hv
  · have hq0 : q = 0 := by omega
    subst hq0
    have e4 : val zs * b + rr = a := by rw [Z0, Xn] at hv; simpa using hv
    have hvz := Yk hok; obtain ⟨Q, hQ⟩ : ∃ Q : Nat, val zs = Q := ⟨(val zs).toNat, by omega⟩; rw [hQ] at e4
    have e4' : a = rr + Q * b := by
      have : ((Q * b + rr : Nat) : Int) = a := by rw [Int.natCast_add, Int.natCast_mul]; exact e4
      omega
    have e5 : a / b = Q ∧ a % b = rr := by
      rw [e4']; constructor
      · rw [Nat.add_mul_div_right _ _ hb, Nat.div_eq_of_lt hrb]; omega
      · rw [Nat.add_mul_mod_self_right, Nat.mod_eq_of_lt hrb]
    refine Zi 0 _ J (Zz _ _) noBor_sub (Qs (Qz (Qw (Qx fun K hK => ?_)))); refine Qq J J J (QW gorTrim (rTrim_ok zs (by omega)) J J J J ?_); rw [Zw hok, hQ, Int.toNat_natCast]; refine Qq J J J (Qv J J J (Qv J J J (Qj (hK _ _ (Qz (Q0 ?_)))))); clear hK K; refine QU [_, _] rfl (Qu J (Qu J QQ)) (by rw [e5.1, e5.2]; rfl) J
theorem gorSplit : InGo Tryz.prog 98 := InGo.of Tryz.func98 (by kernel_rfl) (by kernel_rfl)
theorem limbs_get0 {x : Nat} (h : x ≠ 0) : (limbs x).getD 0 0 = ((x % 1073741824 : Nat) : Int) := by rw [limbs_pos h]; rfl
theorem gcd_half {x y : Nat} (hx : x % 2 = 0) (hy : y % 2 = 1) : Nat.gcd (x / 2) y = Nat.gcd x y := by
  have e : x = 2 * (x / 2) := by omega
  have hc : Nat.Coprime 2 y := by
    unfold Nat.Coprime; rw [Nat.gcd_rec, hy]; rfl
  conv => rhs; rw [e]
  exact (hc.gcd_mul_left_cancel _).symm
theorem gcd_two {x y : Nat} (hx : x % 2 = 0) (hy : y % 2 = 0) : 2 * Nat.gcd (x / 2) (y / 2) = Nat.gcd x y := by
  rw [← Nat.gcd_mul_left, show 2 * (x / 2) = x by omega, show 2 * (y / 2) = y by omega]
theorem gcd_less {x y : Nat} (h : y ≤ x) : Nat.gcd (x - y) y = Nat.gcd x y := by
  conv => rhs; rw [show x = (x - y) + y by omega]
  rw [Nat.gcd_add_self_left]
theorem len_add {x y k : Nat} (h1 : x < 1073741824 ^ k) (h2 : y < 1073741824 ^ k) : (limbs (x + y)).length ≤ k + 1 := by
  refine XW ?_
  rw [Nat.pow_succ]; omega
set_option maxHeartbeats 8000000 in
theorem rGcd_ok (a b : Nat) (la : (limbs a).length ≤ 10000) (lb : (limbs b).length ≤ 10000) : Ok Tryz.prog 97 [natC a, natC b] (natC (Nat.gcd a b)) := by
  refine Ok.enter Tryz.func97 J _ Tryz.ntmps97 J ?_
  intro S w; refine Qw (Qx fun K hK => ?_); refine Qv J J J (Qj (hK _ _ (Qz (Qw (Qw ?_))))); clear hK K; refine Qx (fun K hK => ?_); refine Qq J J J (Qb J J sNat.und (List.length_map ..) J (Qk ieql J J J J (Qq J J J ?_)))
  have early : (limbs a).length = 0 ∨ (limbs b).length = 0 → natC (Nat.gcd a b) = natC (a + b) := by
    rintro (h | h)
    · have : a = 0 := Zl (List.eq_nil_of_length_eq_zero h); subst this; simp
    · have : b = 0 := Zl (List.eq_nil_of_length_eq_zero h); subst this; simp
  refine Q7 9 J (fun g1 => ?_) (fun g1 => ?_)
  · have ee := early (.inl (by omega)); refine Qy J J J (Qy J J J (Qy J J J (QJ J J J J (Qj (hK _ _ (Qz (Qp J (Qw ?_)))))))); clear hK K; refine Qx (fun K hK => ?_); refine Qq J J J (Qq J J J (QW gorPlus (rPlus_ok a b (by omega) (by omega)) J J J J ?_)); refine Qv J J J (Qj (hK _ _ (Qz (Q0 (QZ ?_))))); clear hK K; refine QU [_] rfl (Qu J QQ) (by rw [ee]; rfl) J
  · refine Qq J J J (Qb J J sNat.und (List.length_map ..) J (Qk ieql J J J J (QK J J J J (Qj (hK _ _ (Qz ?_)))))); clear hK K; refine Q2 J (fun g2 => ?_) (fun g2 => ?_)
    · have ee := early (.inr (by omega)); refine Qw (Qx fun K hK => ?_); refine Qq J J J (Qq J J J (QW gorPlus (rPlus_ok a b (by omega) (by omega)) J J J J ?_)); refine Qv J J J (Qj (hK _ _ (Qz (Q0 (QZ ?_))))); clear hK K; refine QU [_] rfl (Qu J QQ) (by rw [ee]; rfl) J
    · have ha0 : a ≠ 0 := limbs_len_pos.mp (by omega); have hb0 : b ≠ 0 := limbs_len_pos.mp (by omega); clear early
      have e11 : natC 1 = .fr (sliceT 1 [[intC 1]]) := by show intsC (limbs 1) = _; rw [Zb (by decide) (by decide)]; rfl
      have h00 : (0 : Int).toNat = 0 := rfl; refine Q1 (Qz (Qw (Qx fun K hK => ?_)))
      refine Zj J J sNat J J J ?_
      rw [← e11]; refine Qv J J J (Qj (hK _ _ (Qz (Qw (Q5 ?_))))); clear hK K
      refine Xx (α := Nat × Nat × Nat) (fun s => 0 < s.1 ∧ 0 < s.2.1 ∧ 0 < s.2.2 ∧ s.1 ≤ a ∧ s.2.1 ≤ b ∧ s.2.2 * s.1 ≤ a ∧ s.2.2 * Nat.gcd s.1 s.2.1 = Nat.gcd a b)
        (fun s => [(0, .ct (natC s.1)), (1, .ct (natC s.2.1)), (5, .ct (natC s.2.2))]) (fun _ => []) (fun s => s.1) (a, b, 1) ⟨by dsimp only; omega, by dsimp only; omega, Nat.one_pos, Nat.le_refl _, Nat.le_refl _, by dsimp only; omega, by dsimp only; omega⟩ (by exact QX J ⟨rfl, rfl, rfl, trivial⟩) ?_
      rintro ⟨x, y, u⟩ ⟨hx, hy, hu, hxa, hyb, hua, hg⟩
      dsimp only at hx hy hu hxa hyb hua hg ⊢; have lx : (limbs x).length ≤ 10000 := Nat.le_trans (X8 hxa) la; have ly : (limbs y).length ≤ 10000 := Nat.le_trans (X8 hyb) lb; have lu : (limbs u).length ≤ 10000 := Nat.le_trans (X8 (Nat.le_trans (Nat.le_mul_of_pos_right u hx) hua)) la; have px := limbs_len_pos.mpr (show x ≠ 0 by omega); have py := limbs_len_pos.mpr (show y ≠ 0 by omega); have gx := limbs_get0 (show x ≠ 0 by omega); have gy := limbs_get0 (show y ≠ 0 by omega); refine Qw (Qw (Qx fun K hK => ?_)); refine Qq J J J (Qh J J J sNat (by omega) (X9 (by omega) (by omega)) J ?_)
      refine XQ J J J lInt J ?_
      rw [h00, gx]
      refine Qk (irem (by omega) (by omega)) J J J J ?_
      refine Qk ieql J J J J (Qq J J J (Q7 23 J (fun g3 => ?_) (fun g3 => ?_)))
      · refine Qq J J J (Qh J J J sNat (by omega) (X9 (by omega) (by omega)) J ?_)
        refine XQ J J J lInt J ?_
        rw [h00, gy]
        refine Qk (irem (by omega) (by omega)) J J J J ?_
        refine Qk ieql J J J J (QJ J J J J (Qj (hK _ _ (Qz ?_)))); clear hK K; refine Q2 J (fun g4 => ?_) (fun g4 => ?_)
        · refine Q1 (Qz (Q5 (Qx fun K hK => ?_))); refine Qq J J J (QW gorhalf (rhalf_ok x (by omega)) J J J J ?_); refine Qq J J J (QW gorhalf (rhalf_ok y (by omega)) J J J J ?_); refine Qq J J J (Qq J J J (QW gorPlus (rPlus_ok u u (by omega) (by omega)) J J J J ?_)); refine Qv J J J (Qv J J J (Qv J J J (Qj (hK _ _ (Qd (Q4 ?_)))))); clear hK K; have q1 := gcd_two (x := x) (y := y) (by omega) (by omega); refine Q8 (x / 2, y / 2, u + u) (by dsimp only; omega) ⟨by dsimp only; omega, by dsimp only; omega, by dsimp only; omega, by dsimp only; omega, by dsimp only; omega, ?_, ?_⟩ (by exact QX J ⟨rfl, rfl, rfl, trivial⟩)
          · dsimp only; rw [← Nat.two_mul, Nat.mul_comm 2 u, Nat.mul_assoc, show 2 * (x / 2) = x by omega]; exact hua
          · dsimp only; rw [← Nat.two_mul, Nat.mul_comm 2 u, Nat.mul_assoc, q1]; exact hg
        · have hodd : x % 2 = 1 ∨ y % 2 = 1 := by omega
          clear g3 g4 gx gy; refine Qs (Qz (Qw (Q5 ?_)))
          refine Xx (α := Nat × Nat) (fun s => s.1 ≤ a ∧ s.2 ≤ b ∧ (s.1 % 2 = 1 ∨ s.2 % 2 = 1) ∧ u * Nat.gcd s.1 s.2 = Nat.gcd a b)
            (fun s => [(0, .ct (natC s.1)), (1, .ct (natC s.2)), (5, .ct (natC u))]) (fun _ => []) (fun s => s.1 + s.2) (x, y) ⟨hxa, hyb, hodd, hg⟩ (by exact QX J ⟨rfl, rfl, rfl, trivial⟩) ?_
          clear hodd hg hxa hyb hua px py lx ly hx hy
          rintro ⟨p, q⟩ ⟨hpa, hqb, hodd, hg⟩
          dsimp only at hpa hqb hodd hg ⊢; have lp : (limbs p).length ≤ 10000 := Nat.le_trans (X8 hpa) la; have lq : (limbs q).length ≤ 10000 := Nat.le_trans (X8 hqb) lb
          have done : p = 0 ∨ q = 0 → natC (Nat.gcd a b) = natC (u * (p + q)) := by
            rintro (h | h)
            · subst h; rw [← hg]; simp
            · subst h; rw [← hg]; simp
          have lpq : (limbs (p + q)).length ≤ 10001 := by
            have h1 := Xi lp; have h2 := Xi lq; exact len_add h1 h2
          refine Qw (Qw (Qx fun K hK => ?_)); refine Qq J J J (Qb J J sNat.und (List.length_map ..) J (Qk igtr J J J J (Qq J J J (Q7 40 J (fun g5 => ?_) (fun g5 => ?_)))))
          · refine Qq J J J (Qb J J sNat.und (List.length_map ..) J (Qk igtr J J J J (QJ J J J J (Qj (hK _ _ (Qz ?_)))))); clear hK K; refine Q2 J (fun g6 => ?_) (fun g6 => ?_)
            · have hp0 : p ≠ 0 := limbs_len_pos.mp (by omega); have hq0 : q ≠ 0 := limbs_len_pos.mp (by omega); have gp := limbs_get0 hp0; have gq := limbs_get0 hq0; clear done; refine Q1 (Qz (Q5 (Q5 (Qw (Qx fun K hK => ?_))))); refine Qq J J J (Qh J J J sNat (by omega) (X9 (by omega) (by omega)) J ?_)
              refine XQ J J J lInt J ?_
              rw [h00, gp]
              refine Qk (irem (by omega) (by omega)) J J J J ?_
              refine Qk ieql J J J J (Qv J J J (Qj (hK _ _ (Qz ?_)))); clear hK K; refine Q2 J (fun g7 => ?_) (fun g7 => ?_)
              · have q1 := gcd_half (x := p) (y := q) (by omega) (by omega); refine Qx (fun K hK => ?_); refine Qq J J J (QW gorhalf (rhalf_ok p (by omega)) J J J J ?_); refine Qv J J J (Qj (hK _ _ (Qd (Qd (Q4 ?_))))); clear hK K; refine Q8 (p / 2, q) (by dsimp only; omega) ⟨by dsimp only; omega, hqb, by dsimp only; omega, by dsimp only; rw [q1]; exact hg⟩ (by exact QX J ⟨rfl, rfl, rfl, trivial⟩)
              · refine Qw (Qx fun K hK => ?_); refine Qq J J J (Qh J J J sNat (by omega) (X9 (by omega) (by omega)) J ?_)
                refine XQ J J J lInt J ?_
                rw [h00, gq]
                refine Qk (irem (by omega) (by omega)) J J J J ?_
                refine Qk ieql J J J J (Qv J J J (Qj (hK _ _ (Qz ?_)))); clear hK K; refine Q2 J (fun g8 => ?_) (fun g8 => ?_)
                · have q1 := gcd_half (x := q) (y := p) (by omega) (by omega); refine Qx (fun K hK => ?_); refine Qq J J J (QW gorhalf (rhalf_ok q (by omega)) J J J J ?_); refine Qv J J J (Qj (hK _ _ (Qd (Qd (Q4 ?_))))); clear hK K; refine Q8 (p, q / 2) (by dsimp only; omega) ⟨hpa, by dsimp only; omega, by dsimp only; omega, by dsimp only; rw [Nat.gcd_comm, q1, Nat.gcd_comm]; exact hg⟩ (by exact QX J ⟨rfl, rfl, rfl, trivial⟩)
                · refine Qw (Qx fun K hK => ?_); refine Qq J J J (Qq J J J (QW gorCompare (rCompare_ok p q (by omega) (by omega)) J J J J ?_)); refine Qk igeq J J J J (Qv J J J (Qj (hK _ _ (Qz ?_)))); clear hK K; refine Q2 J (fun g9 => ?_) (fun g9 => ?_)
                  · have hle : q ≤ p := by have := cmpI_neg (a := p) (b := q); omega
                    have q1 := gcd_less hle; refine Qx (fun K hK => ?_); refine Qq J J J (Qq J J J (QW gorLess (rLess_ok p q hle (by omega)) J J J J ?_)); refine Qv J J J (Qj (hK _ _ (Qd (Qd (Q4 ?_))))); clear hK K; refine Q8 (p - q, q) (by dsimp only; omega) ⟨by dsimp only; omega, hqb, by dsimp only; omega, by dsimp only; rw [q1]; exact hg⟩ (by exact QX J ⟨rfl, rfl, rfl, trivial⟩)
                  · have hle : p ≤ q := by have := cmpI_neg (a := p) (b := q); omega
                    have q1 := gcd_less hle; refine Qx (fun K hK => ?_); refine Qq J J J (Qq J J J (QW gorLess (rLess_ok q p hle (by omega)) J J J J ?_)); refine Qv J J J (Qj (hK _ _ (Qd (Qd (Q4 ?_))))); clear hK K; refine Q8 (p, q - p) (by dsimp only; omega) ⟨hpa, by dsimp only; omega, by dsimp only; omega, by dsimp only; rw [Nat.gcd_comm, q1, Nat.gcd_comm]; exact hg⟩ (by exact QX J ⟨rfl, rfl, rfl, trivial⟩)
            · have hd := done (.inr (Zl (List.eq_nil_of_length_eq_zero (by omega)))); refine Qs (Qz (Qw (Qx fun K hK => ?_))); refine Qq J J J (Qq J J J (Qq J J J (QW gorPlus (rPlus_ok p q (by omega) (by omega)) J J J J ?_)))
              refine QW gorTimes (rTimes_ok u (p + q) (by omega)) J J J J ?_
              refine Qv J J J (Qj (hK _ _ (Qz (Q0 ?_)))); clear hK K; refine QU [_] rfl (Qu J QQ) (by rw [hd]; rfl) J
          · have hd := done (.inl (Zl (List.eq_nil_of_length_eq_zero (by omega)))); refine Qy J J J (Qy J J J (Qy J J J (QK J J J J (Qj (hK _ _ (Qz (Xv J (Qs (Qz (Qw ?_)))))))))); clear hK K; refine Qx (fun K hK => ?_); refine Qq J J J (Qq J J J (Qq J J J (QW gorPlus (rPlus_ok p q (by omega) (by omega)) J J J J ?_)))
            refine QW gorTimes (rTimes_ok u (p + q) (by omega)) J J J J ?_
            refine Qv J J J (Qj (hK _ _ (Qz (Q0 ?_)))); clear hK K; refine QU [_] rfl (Qu J QQ) (by rw [hd]; rfl) J
      · have hodd : x % 2 = 1 ∨ y % 2 = 1 := by omega
        clear g3 gx gy; refine Qy J J J (Qy J J J (Qy J J J (Qy J J J (Qy J J J (QK J J J J (Qj (hK _ _ (Qz (Xv J (Qs (Qz (Qw (Q5 ?_))))))))))))); clear hK K
        refine Xx (α := Nat × Nat) (fun s => s.1 ≤ a ∧ s.2 ≤ b ∧ (s.1 % 2 = 1 ∨ s.2 % 2 = 1) ∧ u * Nat.gcd s.1 s.2 = Nat.gcd a b)
          (fun s => [(0, .ct (natC s.1)), (1, .ct (natC s.2)), (5, .ct (natC u))]) (fun _ => []) (fun s => s.1 + s.2) (x, y) ⟨hxa, hyb, hodd, hg⟩ (by exact QX J ⟨rfl, rfl, rfl, trivial⟩) ?_
        clear hodd hg hxa hyb hua px py lx ly hx hy
        rintro ⟨p, q⟩ ⟨hpa, hqb, hodd, hg⟩
        dsimp only at hpa hqb hodd hg ⊢; have lp : (limbs p).length ≤ 10000 := Nat.le_trans (X8 hpa) la; have lq : (limbs q).length ≤ 10000 := Nat.le_trans (X8 hqb) lb
        have done : p = 0 ∨ q = 0 → natC (Nat.gcd a b) = natC (u * (p + q)) := by
          rintro (h | h)
          · subst h; rw [← hg]; simp
          · subst h; rw [← hg]; simp
        have lpq : (limbs (p + q)).length ≤ 10001 := by
          have h1 := Xi lp; have h2 := Xi lq; exact len_add h1 h2
        refine Qw (Qw (Qx fun K hK => ?_)); refine Qq J J J (Qb J J sNat.und (List.length_map ..) J (Qk igtr J J J J (Qq J J J (Q7 40 J (fun g5 => ?_) (fun g5 => ?_)))))
        · refine Qq J J J (Qb J J sNat.und (List.length_map ..) J (Qk igtr J J J J (QJ J J J J (Qj (hK _ _ (Qz ?_)))))); clear hK K; refine Q2 J (fun g6 => ?_) (fun g6 => ?_)
          · have hp0 : p ≠ 0 := limbs_len_pos.mp (by omega); have hq0 : q ≠ 0 := limbs_len_pos.mp (by omega); have gp := limbs_get0 hp0; have gq := limbs_get0 hq0; clear done; refine Q1 (Qz (Q5 (Q5 (Qw (Qx fun K hK => ?_))))); refine Qq J J J (Qh J J J sNat (by omega) (X9 (by omega) (by omega)) J ?_)
            refine XQ J J J lInt J ?_
            rw [h00, gp]
            refine Qk (irem (by omega) (by omega)) J J J J ?_
            refine Qk ieql J J J J (Qv J J J (Qj (hK _ _ (Qz ?_)))); clear hK K; refine Q2 J (fun g7 => ?_) (fun g7 => ?_)
            · have q1 := gcd_half (x := p) (y := q) (by omega) (by omega); refine Qx (fun K hK => ?_); refine Qq J J J (QW gorhalf (rhalf_ok p (by omega)) J J J J ?_); refine Qv J J J (Qj (hK _ _ (Qd (Qd (Q4 ?_))))); clear hK K; refine Q8 (p / 2, q) (by dsimp only; omega) ⟨by dsimp only; omega, hqb, by dsimp only; omega, by dsimp only; rw [q1]; exact hg⟩ (by exact QX J ⟨rfl, rfl, rfl, trivial⟩)
            · refine Qw (Qx fun K hK => ?_); refine Qq J J J (Qh J J J sNat (by omega) (X9 (by omega) (by omega)) J ?_)
              refine XQ J J J lInt J ?_
              rw [h00, gq]
              refine Qk (irem (by omega) (by omega)) J J J J ?_
              refine Qk ieql J J J J (Qv J J J (Qj (hK _ _ (Qz ?_)))); clear hK K; refine Q2 J (fun g8 => ?_) (fun g8 => ?_)
              · have q1 := gcd_half (x := q) (y := p) (by omega) (by omega); refine Qx (fun K hK => ?_); refine Qq J J J (QW gorhalf (rhalf_ok q (by omega)) J J J J ?_); refine Qv J J J (Qj (hK _ _ (Qd (Qd (Q4 ?_))))); clear hK K; refine Q8 (p, q / 2) (by dsimp only; omega) ⟨hpa, by dsimp only; omega, by dsimp only; omega, by dsimp only; rw [Nat.gcd_comm, q1, Nat.gcd_comm]; exact hg⟩ (by exact QX J ⟨rfl, rfl, rfl, trivial⟩)
              · refine Qw (Qx fun K hK => ?_); refine Qq J J J (Qq J J J (QW gorCompare (rCompare_ok p q (by omega) (by omega)) J J J J ?_)); refine Qk igeq J J J J (Qv J J J (Qj (hK _ _ (Qz ?_)))); clear hK K; refine Q2 J (fun g9 => ?_) (fun g9 => ?_)
                · have hle : q ≤ p := by have := cmpI_neg (a := p) (b := q); omega
                  have q1 := gcd_less hle; refine Qx (fun K hK => ?_); refine Qq J J J (Qq J J J (QW gorLess (rLess_ok p q hle (by omega)) J J J J ?_)); refine Qv J J J (Qj (hK _ _ (Qd (Qd (Q4 ?_))))); clear hK K; refine Q8 (p - q, q) (by dsimp only; omega) ⟨by dsimp only; omega, hqb, by dsimp only; omega, by dsimp only; rw [q1]; exact hg⟩ (by exact QX J ⟨rfl, rfl, rfl, trivial⟩)
                · have hle : p ≤ q := by have := cmpI_neg (a := p) (b := q); omega
                  have q1 := gcd_less hle; refine Qx (fun K hK => ?_); refine Qq J J J (Qq J J J (QW gorLess (rLess_ok q p hle (by omega)) J J J J ?_)); refine Qv J J J (Qj (hK _ _ (Qd (Qd (Q4 ?_))))); clear hK K; refine Q8 (p, q - p) (by dsimp only; omega) ⟨hpa, by dsimp only; omega, by dsimp only; omega, by dsimp only; rw [Nat.gcd_comm, q1, Nat.gcd_comm]; exact hg⟩ (by exact QX J ⟨rfl, rfl, rfl, trivial⟩)
          · have hd := done (.inr (Zl (List.eq_nil_of_length_eq_zero (by omega)))); refine Qs (Qz (Qw (Qx fun K hK => ?_))); refine Qq J J J (Qq J J J (Qq J J J (QW gorPlus (rPlus_ok p q (by omega) (by omega)) J J J J ?_)))
            refine QW gorTimes (rTimes_ok u (p + q) (by omega)) J J J J ?_
            refine Qv J J J (Qj (hK _ _ (Qz (Q0 ?_)))); clear hK K; refine QU [_] rfl (Qu J QQ) (by rw [hd]; rfl) J
        · have hd := done (.inl (Zl (List.eq_nil_of_length_eq_zero (by omega)))); refine Qy J J J (Qy J J J (Qy J J J (QK J J J J (Qj (hK _ _ (Qz (Xv J (Qs (Qz (Qw ?_)))))))))); clear hK K; refine Qx (fun K hK => ?_); refine Qq J J J (Qq J J J (Qq J J J (QW gorPlus (rPlus_ok p q (by omega) (by omega)) J J J J ?_)))
          refine QW gorTimes (rTimes_ok u (p + q) (by omega)) J J J J ?_
          refine Qv J J J (Qj (hK _ _ (Qz (Q0 ?_)))); clear hK K; refine QU [_] rfl (Qu J QQ) (by rw [hd]; rfl) J
theorem gorGcd : InGo Tryz.prog 97 := InGo.of Tryz.func97 (by kernel_rfl) (by kernel_rfl)
theorem rmagnitude_ok (n : Int) (h1 : -9223372036854775808 ≤ n) (h2 : n ≤ 9223372036854775807) : Ok Tryz.prog 53 [intC n] (natC n.natAbs) := by
  refine Ok.enter Tryz.func53 J _ Tryz.ntmps53 J ?_
  intro S w; refine Qw (Qx fun K hK => ?_); refine Qv J J J (Qj (hK _ _ (Qz (Qw (Qw ?_))))); clear hK K; refine Qx (fun K hK => ?_); refine Qq J J J (Qk ilss J J J J (Qj (hK _ _ (Qz ?_)))); clear hK K; refine Q2 J (fun h => ?_) (fun h => ?_)
  · refine Qw (Qx fun K hK => ?_); refine Qq J J J (Qk (iadd (by omega) (by omega)) J J J J ?_)
    refine Ops.ineg J J (by omega) (by omega) J ?_
    refine Xe J J uI64 uU64 (wrap_u (by omega) (by omega)) J ?_
    refine Qk (uadd (by omega) (by omega)) J J J J ?_
    rw [show -(n + 1) + 1 = (n.natAbs : Int) by omega]
    refine QW gorWord (rWord_ok n.natAbs (by omega)) J J J J ?_
    refine Qv J J J (Qj (hK _ _ (Qz (Q0 (QZ ?_))))); clear hK K; refine QU [_] rfl (Qu J QQ) J J
  · refine Q1 (Qz (Qw (Qx fun K hK => ?_))); refine Qq J J J (Xe J J uI64 uU64 (wrap_u (by omega) (by omega)) J ?_); rw [show n = (n.natAbs : Int) by omega]
    refine QW gorWord (rWord_ok n.natAbs (by omega)) J J J J ?_
    refine Qv J J J (Qj (hK _ _ (Qz (Q0 ?_)))); clear hK K; refine QU [_] rfl (Qu J QQ) J J
theorem gormagnitude : InGo Tryz.prog 53 := InGo.of Tryz.func53 (by kernel_rfl) (by kernel_rfl)
set_option maxHeartbeats 2000000 in
theorem rreduced_ok (neg : Bool) (a b : Nat) (h0 : 0 < b) (la : (limbs a).length ≤ 10000) (lb : (limbs b).length ≤ 10000) : Ok Tryz.prog 52 [boolC neg, natC a, natC b] (fracC (redF neg a b)) := by
  have hg0 : 0 < Nat.gcd a b := Nat.gcd_pos_of_pos_right _ h0; have hg1 : Nat.gcd a b ≤ b := Nat.gcd_le_right _ h0; have lg : (limbs (Nat.gcd a b)).length ≤ 10000 := Nat.le_trans (X8 hg1) lb; have h1 := rGcd_ok a b la lb; have h2 := rSplit_ok a _ hg0 la lg; have h3 := rSplit_ok b _ hg0 lb lg
  have e0 : a ≠ 0 → redF neg a b = ⟨neg, a / Nat.gcd a b, b / Nat.gcd a b⟩ := fun ha => by
    unfold redF
    have : a / Nat.gcd a b ≠ 0 := by
      have := Nat.div_pos (Nat.gcd_le_left b (Nat.pos_of_ne_zero ha)) hg0; omega
    simp [this]
  have e1 : a = 0 → redF neg a b = ⟨false, 0, 1⟩ := fun ha => by
    subst ha; unfold redF; simp [Nat.div_self h0]
  have e11 : natC 1 = .fr (sliceT 1 [[intC 1]]) := by show intsC (limbs 1) = _; rw [Zb (by decide) (by decide)]; rfl
  generalize Nat.gcd a b = g at *
  refine Ok.enter Tryz.func52 J _ Tryz.ntmps52 J ?_
  intro S w; refine Qw (Qx fun K hK => ?_); refine Qg 0 J J zvFrac J J J (Qj (hK _ _ (Qz (Qw (Qw ?_))))); clear hK K; refine Qx (fun K hK => ?_); refine Qq J J J (Qb J J sNat.und (List.length_map ..) J (Qk ieql J J J J (Qj (hK _ _ (Qz ?_))))); clear hK K; refine Q2 J (fun h => ?_) (fun h => ?_)
  · have ha : a = 0 := Zl (List.eq_nil_of_length_eq_zero (by omega)); have e2 := e1 ha; refine Qw (Qx fun K hK => ?_)
    refine Zj J J sNat J J J ?_
    rw [← e11]; refine Qi J Za J (.one J J J J .nil) J (Qa 3 J J J J J szFrac J J (Qj (hK _ _ (Qz (Q0 (QZ ?_)))))); clear hK K; refine QU [_] rfl (Xj (Yz (ds := [boolC false, intsC [], natC 1]) (by exact ⟨ZJ, X5, ZJ, trivial⟩)) (Qc (n := 3) J J Xa J QQ)) (by rw [e2, ← natC_zero]; rfl) J
  · have ha : a ≠ 0 := fun ha => h (by rw [ha, limbs_zero]; rfl)
    have e2 := e0 ha; refine Q1 (Qz (Qw (Qx fun K hK => ?_))); refine Qq J J J (Qq J J J (QW gorGcd h1 J J J J (Qv J J J (Qj (hK _ _ (Qz (Qw ?_))))))); clear hK K; refine Qx (fun K hK => ?_); refine Qq J J J (Qq J J J (QW gorSplit h2 J J J J (Qq J J J (Q9 J J J J (Q9 J J J J (Qv J J J (Qv J J J (Qj (hK _ _ (Qz (Qw ?_))))))))))); clear hK K; refine Qx (fun K hK => ?_); refine Qq J J J (Qq J J J (QW gorSplit h3 J J J J (Qq J J J (Q9 J J J J (Q9 J J J J (Qv J J J (Qv J J J (Qj (hK _ _ (Qz (Qw ?_))))))))))); clear hK K; refine Qx (fun K hK => ?_); refine Qq J J J (Qq J J J (Qq J J J (Qi J Za J (.one J J J J (.one J J J J (.one J J J J .nil))) J (Qa 3 J J J J J szFrac J J (Qj (hK _ _ (Qz (Q0 ?_)))))))); clear hK K; refine QU [_] rfl (Qc (n := 3) J J Xa J QQ) (by rw [e2]; rfl) J
theorem gorreduced : InGo Tryz.prog 52 := InGo.of Tryz.func52 (by kernel_rfl) (by kernel_rfl)
set_option maxHeartbeats 2000000 in
theorem rFrom_ok (n d : Int) (h1 : -9223372036854775808 ≤ n) (h2 : n ≤ 9223372036854775807) (h3 : -9223372036854775808 ≤ d) (h4 : d ≤ 9223372036854775807) (h0 : d ≠ 0) : Ok Tryz.prog 18 [intC n, intC d] (.fr (tupT [ratC (Rat.divInt n d), intC 0])) := by
  have hl : (limbs n.natAbs).length ≤ 3 := XW (k := 3) (by omega); have hl2 : (limbs d.natAbs).length ≤ 3 := XW (k := 3) (by omega); rw [show ratC (Rat.divInt n d) = fracC (redF (decide (n < 0) != decide (d < 0)) n.natAbs d.natAbs) from by rw [from_redF n d h0]]
  refine Ok.enter Tryz.func18 J _ Tryz.ntmps18 J ?_
  intro S w; refine Qw (Qx fun K hK => ?_); refine Qg 0 J J zvFrac J J J (Qv J J J (Qj (hK _ _ (Qz (Qw (Qw ?_)))))); clear hK K; refine Qx (fun K hK => ?_); refine Qq J J J (Qk ieql J J J J (Qj (hK _ _ (Qz ?_)))); clear hK K; refine Q2 J (fun h => absurd h h0) (fun h => ?_); refine Q1 (Qz (Qw (Qx fun K hK => ?_))); refine Qq J J J (Qk ilss J J J J (Qq J J J (Qk ilss J J J J (Ops.bne J J J uBool J ?_)))); rw [dne]; refine Qq J J J (QW gormagnitude (rmagnitude_ok n h1 h2) J J J J (Qq J J J (QW gormagnitude (rmagnitude_ok d h3 h4) J J J J (QW gorreduced (rreduced_ok _ n.natAbs d.natAbs (by omega) (by omega) (by omega)) J J J J ?_)))); refine Qa 3 J J J J J szFrac J J (Qv J J J (Qj (hK _ _ (Qz (Q0 ?_))))); clear hK K; refine QU [_, _] rfl (Qc (n := 3) J J Xa J (Qu J QQ)) J J
theorem gorFrom : InGo Tryz.prog 18 := InGo.of Tryz.func18 (by kernel_rfl) (by kernel_rfl)
def oppF (f : Fr) : Fr := ⟨!f.neg && decide (f.num ≠ 0), f.num, f.den⟩
end Go.Proofs.YtlkdkbdgnjcopaaGreat
namespace Go.Own
end Go.Own
namespace Go.Proofs.YtlkdkbdgnjcopaaGreat
open Go.Own Go.Limbs
attribute [local irreducible] St Ops Go.Own.Fin Ok
def cmpQ (p q : Rat) : Int := (p.num * q.den - q.num * p.den).sign
end Go.Proofs.YtlkdkbdgnjcopaaGreat
namespace Go.Proofs.YtlkdkbdgnjcopaaGreat
open Go.Own Go.Limbs
structure CnOk (l : List Rs) (n : Int) (c : Cn) : Prop where
  se : 1 ≤ c.se ∧ c.se ≤ l.length
  hi : 0 ≤ c.hi ∧ c.hi ≤ c.se
  lo : c.lo = max 0 (c.hi - n)
  cnt : ∀ b, 0 ≤ b → b ≤ 1048576 → cntF l c.wr b = (⟨c.wr, c.se, max 0 (c.hi - b), c.hi⟩, 0)
  crs : crO l c.wr = ((crsF l c.wr true).map idOf, (crsF l c.wr false).map idOf, 0)
  len : ((crsF l c.wr true).length : Int) + (crsF l c.wr false).length = c.se ∧ ((crsF l c.wr false).length : Int) = c.hi
theorem filter_two {α : Type} (p : α → Bool) (q : α → Bool) : ∀ l : List α, (l.filter fun r => p r && (q r == true)).length + (l.filter fun r => p r && (q r == false)).length = (l.filter p).length
  | [] => rfl
  | a :: l => by
    have ih := filter_two p q l
    rw [List.filter_cons, List.filter_cons, List.filter_cons]
    cases hp : p a <;> cases hq : q a <;> simp only [show ((true : Bool) == true) = true from rfl, show ((false : Bool) == true) = false from rfl, show ((true : Bool) == false) = false from rfl, show ((false : Bool) == false) = true from rfl, Bool.and_self, Bool.and_true, Bool.and_false, Bool.false_and, if_true, Bool.false_eq_true, if_false, List.length_cons] <;> omega
theorem cnOf_ok {l : List Rs} {n : Int} (hc : chkF l = 0) (hn : 0 ≤ n ∧ n ≤ 1048576) {c : Cn} (h : c ∈ (alO l n).1) : CnOk l n c := by
  have e : (alO l n).1 = (sd cmpW ((tickF (wayF l) (sd cmpR (l.filter okR))).map (·.1))).map (cnOf (tickF (wayF l) (sd cmpR (l.filter okR))) n) := by
    unfold alO; rw [if_neg (by omega), if_neg (fun h => h hc)]
  rw [e] at h; obtain ⟨w, hw, rfl⟩ := List.mem_map.1 h; have hw := ((Zt ordW _).2 w).1 hw; rw [← look1_some] at hw; obtain ⟨r, hr, hrw⟩ := ((tickF_some (wayF l) w _ []).1 hw).resolve_left (by simp [look1]); have hk : (look1 (tickF (wayF l) (sd cmpR (l.filter okR))) w).getD (0, 0) = (0 + (((sd cmpR (l.filter okR)).filter fun r => decide (w ∈ wayF l r)).length : Int), 0 + (((sd cmpR (l.filter okR)).filter fun r => decide (w ∈ wayF l r) && (r.an == false)).length : Int)) := tickF_look (wayF l) w _ []; have h2 : (crsF l w true).length + (crsF l w false).length = ((sd cmpR (l.filter okR)).filter fun r => decide (w ∈ wayF l r)).length := filter_two _ _ _; have h3 : (crsF l w false).length = ((sd cmpR (l.filter okR)).filter fun r => decide (w ∈ wayF l r) && (r.an == false)).length := rfl; have h4 : 0 < ((sd cmpR (l.filter okR)).filter fun r => decide (w ∈ wayF l r)).length := List.length_pos_of_mem (List.mem_filter.2 ⟨hr, decide_eq_true hrw⟩); have h5 := List.length_filter_le (fun r => decide (w ∈ wayF l r)) (sd cmpR (l.filter okR)); have h6 := Yv cmpR (l.filter okR); have h7 := List.length_filter_le okR l; rw [← h2, ← h3, Int.zero_add, Int.zero_add] at hk; rw [← h2] at h4 h5; clear h2 h3
  have e2 : cnOf (tickF (wayF l) (sd cmpR (l.filter okR))) n w = ⟨w, ((crsF l w true).length : Int) + (crsF l w false).length, max 0 ((crsF l w false).length - n), (crsF l w false).length⟩ := by
    unfold cnOf; rw [hk]; simp
  rw [e2]; refine ⟨⟨by dsimp only; omega, by dsimp only; omega⟩, ⟨by dsimp only; omega, by dsimp only; omega⟩, rfl, fun b h0 h1 => ?_, ?_, ⟨rfl, rfl⟩⟩
  · dsimp only; unfold cntF; rw [if_neg (by omega), if_neg (fun h => h hc), if_neg (by omega)]
  · dsimp only; unfold crO; rw [if_neg (fun h => h hc), if_neg (by omega)]
theorem alO_len (l : List Rs) (n : Int) : (alO l n).1.length ≤ l.length * 256 := by
  unfold alO; split
  · exact Nat.zero_le _
  · split
    · exact Nat.zero_le _
    · dsimp only; rw [List.length_map]
      refine Nat.le_trans (Yv _ _) ?_
      rw [List.length_map]; have h1 := tickF_len (wayF l) 256 (wayF_len l) (sd cmpR (l.filter okR)) []; have h2 := Yv cmpR (l.filter okR); have h3 := List.length_filter_le okR l
      refine Nat.le_trans h1 ?_
      rw [List.length_nil, Nat.zero_add]; exact Nat.mul_le_mul_right _ (Nat.le_trans h2 h3)
def posW (out : List Wr) (t : Wr) : Nat := (out.takeWhile fun x => decide (cmpW x t < 0)).length
def insW (out : List Wr) (t : Wr) : List Wr := if posW out t < out.length ∧ out.getD (posW out t) wr0 = t then out else out.take (posW out t) ++ t :: out.drop (posW out t)
theorem posW_le (out : List Wr) (t : Wr) : posW out t ≤ out.length := by
  unfold posW; exact (List.takeWhile_sublist _).length_le
theorem posW_cons (x : Wr) (out : List Wr) (t : Wr) : posW (x :: out) t = if cmpW x t < 0 then posW out t + 1 else 0 := by
  unfold posW; rw [List.takeWhile_cons]; by_cases h : cmpW x t < 0
  · rw [decide_eq_true h, if_pos J, if_pos h]; rfl
  · rw [decide_eq_false h, if_neg h]; rfl
theorem insW_len (out : List Wr) (t : Wr) : (insW out t).length ≤ out.length + 1 := by
  have := posW_le out t; unfold insW; split
  · omega
  · simp only [List.length_append, List.length_take, List.length_cons, List.length_drop]; omega
theorem insW_cons (x : Wr) (out : List Wr) (t : Wr) : insW (x :: out) t = if cmpW x t < 0 then x :: insW out t else if x = t then x :: out else t :: x :: out := by
  unfold insW; rw [posW_cons]; by_cases h : cmpW x t < 0
  · rw [if_pos h, if_pos h]; by_cases h2 : posW out t < out.length ∧ out.getD (posW out t) wr0 = t
    · rw [if_pos h2, if_pos ⟨by rw [List.length_cons]; omega, h2.2⟩]
    · rw [if_neg h2, if_neg (fun h3 => h2 ⟨by have := h3.1; rw [List.length_cons] at this; omega, h3.2⟩)]; rfl
  · rw [if_neg h, if_neg h]; by_cases h2 : x = t
    · rw [if_pos h2, if_pos ⟨Nat.succ_pos _, h2⟩]
    · rw [if_neg h2, if_neg (fun h3 => h2 h3.2)]; rfl
theorem insW_spec (t : Wr) : ∀ out : List Wr, Up cmpW out → Up cmpW (insW out t) ∧ ∀ x, x ∈ insW out t ↔ x ∈ out ∨ x = t
  | [], _ => ⟨List.pairwise_singleton _ _, fun x => by show x ∈ [t] ↔ _; rw [List.mem_singleton]; exact ⟨.inr, fun h => h.elim (fun h => by cases h) id⟩⟩
  | y :: out, h => by
    obtain ⟨h1, h2⟩ := List.pairwise_cons.1 h
    obtain ⟨h3, h4⟩ := insW_spec t out h2
    rw [insW_cons]
    split
    · rename_i hc
      refine ⟨List.pairwise_cons.2 ⟨fun x hx => ?_, h3⟩, fun x => ?_⟩
      · rcases (h4 x).1 hx with h5 | rfl
        · exact h1 x h5
        · exact hc
      · rw [List.mem_cons, h4, List.mem_cons, or_assoc]
    · rename_i hc
      split
      · rename_i he
        subst he
        exact ⟨h, fun x => ⟨.inl, fun h => h.elim id fun e => by rw [e]; exact List.mem_cons_self ..⟩⟩
      · rename_i he
        have h5 : cmpW t y < 0 := by
          have := ordW.anti t y
          have : cmpW y t ≠ 0 := fun e => he (ordW.eq0 _ _ e)
          omega
        refine ⟨List.pairwise_cons.2 ⟨fun x hx => ?_, h⟩, fun x => ?_⟩
        · rcases List.mem_cons.1 hx with rfl | hx
          · exact h5
          · exact ordW.trans _ _ _ h5 (h1 x hx)
        · rw [List.mem_cons (l := y :: out)]; exact or_comm
theorem foldW_spec : ∀ (ws out : List Wr), Up cmpW out → Up cmpW (ws.foldl insW out) ∧ ∀ x, x ∈ ws.foldl insW out ↔ x ∈ out ∨ x ∈ ws
  | [], out, h => ⟨h, fun x => ⟨.inl, fun h => h.elim id fun h => by cases h⟩⟩
  | w :: ws, out, h => by
    obtain ⟨h1, h2⟩ := insW_spec w out h
    obtain ⟨h3, h4⟩ := foldW_spec ws _ h1
    exact ⟨h3, fun x => by rw [List.foldl_cons, h4, h2, List.mem_cons, or_assoc]⟩
def wiR (l : List Rs) (r : Rs) : List Wr := if (wyR l r).2 = true then wiresG 0 (wyR l r).1 true else []
theorem wiR_eq (l : List Rs) (r : Rs) : wiR l r = wayF l r := by
  have e : wayF l r = if usR r = false then [] else if r.tt ≤ (pathF (ofF l (trOf r)) r.fl).length then wiresG 0 ((pathF (ofF l (trOf r)) r.fl).take r.tt.toNat) true
    else if ((pathF (ofF l (trOf r)) r.fl).length : Int) < r.tt - 1 ∨ r.an = true then [] else wiresG 0 (pathF (ofF l (trOf r)) r.fl) true := rfl
  rw [e]; unfold wiR wyR; generalize pathF (ofF l (trOf r)) r.fl = p; by_cases h1 : usR r = false
  · rw [if_pos h1, if_pos h1]; rfl
  rw [if_neg h1, if_neg h1]; by_cases h2 : r.tt ≤ (p.length : Int)
  · rw [if_pos h2, if_pos h2]; rfl
  rw [if_neg h2, if_neg h2]; by_cases h3 : (p.length : Int) = r.tt - 1 ∧ r.an = false
  · rw [if_pos h3, if_neg (fun h => h.elim (fun h => by omega) (fun h => by rw [h3.2] at h; cases h) : ¬ ((p.length : Int) < r.tt - 1 ∨ r.an = true))]; exact wiresG_zero _ _ _
  · rw [if_neg h3, if_pos (show (p.length : Int) < r.tt - 1 ∨ r.an = true by
      by_cases h4 : r.an = true
      · exact .inr h4
      · refine .inl ?_
        have : ¬ (p.length : Int) = r.tt - 1 := fun h5 => h3 ⟨h5, by cases h : r.an with | true => exact absurd h h4 | false => rfl⟩
        omega)]; rfl
def allW (l m : List Rs) (out : List Wr) : List Wr := m.foldl (fun o r => (wiR l r).foldl insW o) out
theorem allW_spec (l : List Rs) : ∀ (m : List Rs) (out : List Wr), Up cmpW out → Up cmpW (allW l m out) ∧ ∀ x, x ∈ allW l m out ↔ x ∈ out ∨ ∃ r ∈ m, x ∈ wiR l r
  | [], out, h => ⟨h, fun x => ⟨.inl, fun h => h.elim id fun ⟨_, h, _⟩ => by cases h⟩⟩
  | r :: m, out, h => by
    obtain ⟨h1, h2⟩ := foldW_spec (wiR l r) out h
    obtain ⟨h3, h4⟩ := allW_spec l m _ h1
    refine ⟨h3, fun x => ?_⟩
    show x ∈ allW l m ((wiR l r).foldl insW out) ↔ _
    rw [h4, h2]
    constructor
    · rintro ((h | h) | ⟨q, hq, h⟩)
      · exact .inl h
      · exact .inr ⟨r, List.mem_cons_self .., h⟩
      · exact .inr ⟨q, List.mem_cons_of_mem _ hq, h⟩
    · rintro (h | ⟨q, hq, h⟩)
      · exact .inl (.inl h)
      · rcases List.mem_cons.1 hq with rfl | hq
        · exact .inl (.inr h)
        · exact .inr ⟨q, hq, h⟩
def alR (l : List Rs) (n : Int) : List Cn × Int := if bdB n = false then ([], 1) else if ¬ chkR l = 0 then ([], chkR l) else ((allW l l []).map fun w => (cntR l w n).1, 0)
theorem al_eq (l : List Rs) (n : Int) : alR l n = alO l n := by
  unfold alR; rw [chk_eq]; by_cases h0 : n < 0 ∨ 1048576 < n
  · rw [if_pos ((bd_iff n).2 h0)]; unfold alO; rw [if_pos h0]
  rw [if_neg (fun h => h0 ((bd_iff n).1 h))]; by_cases h1 : chkF l = 0
  · rw [if_neg (fun h => h h1)]
    have hok : ∀ r ∈ l, okR r = true := fun r hr => by
      cases h : okR r with
      | true => rfl
      | false =>
        have : chkF l = 1 := by unfold chkF; rw [if_pos (by rw [List.any_eq_true]; exact ⟨r, hr, by rw [h]; rfl⟩)]
        rw [this] at h1; cases h1
    have hC := fun c h => cnOf_ok (l := l) (n := n) h1 (by omega) (c := c) h
    have e : alO l n = ((sd cmpW ((tickF (wayF l) (sd cmpR (l.filter okR))).map (·.1))).map (cnOf (tickF (wayF l) (sd cmpR (l.filter okR))) n), 0) := by
      unfold alO; rw [if_neg h0, if_neg (fun h => h h1)]
    rw [e] at hC ⊢; obtain ⟨h2, h3⟩ := allW_spec l l [] List.Pairwise.nil; have h4 := Zt ordW ((tickF (wayF l) (sd cmpR (l.filter okR))).map (·.1))
    have e2 : allW l l [] = sd cmpW ((tickF (wayF l) (sd cmpR (l.filter okR))).map (·.1)) := by
      refine Up.ext ordW h2 h4.1 fun x => ?_
      rw [h3, h4.2, ← look1_some]; have h5 := tickF_some (wayF l) x (sd cmpR (l.filter okR)) []; rw [show (look1 (tickF (wayF l) (sd cmpR (l.filter okR))) x).isSome = true ↔ _ from h5]; constructor
      · rintro (h | ⟨r, hr, h⟩)
        · cases h
        · exact .inr ⟨r, ((Zt ordR _).2 r).2 (List.mem_filter.2 ⟨hr, hok r hr⟩), by rw [← wiR_eq]; exact h⟩
      · rintro (h | ⟨r, hr, h⟩)
        · cases h
        · exact .inr ⟨r, (List.mem_filter.1 (((Zt ordR _).2 r).1 hr)).1, by rw [wiR_eq]; exact h⟩
    rw [e2]; refine Prod.ext (List.map_congr_left fun w hw => ?_) J; have h6 := hC _ (List.mem_map_of_mem hw); have h7 := h6.cnt n (by omega) (by omega); rw [cnt_eq]; rw [show (cnOf (tickF (wayF l) (sd cmpR (l.filter okR))) n w).wr = w from rfl] at h7; rw [h7]; exact congrArg (fun x => (⟨w, _, x, _⟩ : Cn)) h6.lo.symm
  · rw [if_pos h1]; unfold alO; rw [if_neg h0, if_pos h1]
attribute [local irreducible] Go.Own.Fin Ok OkB OkF OkL OkM OkN OkT Ops St
theorem cmpW_eq (a b : Wr) : cmpW a b = if a.1 = b.1 then cmp3 a.2.val b.2.val else cmp3 a.1.val b.1.val := by
  show (if cmp3 (a.1.val : Int) b.1.val ≠ 0 then cmp3 (a.1.val : Int) b.1.val else if cmp3 (a.2.val : Int) b.2.val ≠ 0 then cmp3 (a.2.val : Int) b.2.val else 0) = _; by_cases h : a.1 = b.1
  · rw [if_pos h, if_neg (fun h2 => h2 (cmp3_zero.2 (by rw [h])))]; split
    · rfl
    · rename_i h2; exact (Classical.not_not.1 h2).symm
  · rw [if_neg h, if_pos (fun h2 => h (Fin.ext (by have := cmp3_zero.1 h2; omega)))]
theorem gorCompareWire : InGo Tryz.prog 108 := InGo.of Tryz.func108 rfl (by decide)
set_option maxHeartbeats 4000000 in
theorem rCompareWire_ok (a b : Wr) : Ok Tryz.prog 108 [wrC a, wrC b] (intC (cmpW a b)) := by
  have e := cmpW_eq a b; generalize cmpW a b = out at e ⊢
  refine Ok.enter Tryz.func108 J _ Tryz.ntmps108 J ?_
  intro S w; refine Qw (Qx fun K hK => ?_); refine Xz 0 J J J J J J J (Xz 1 J J J J J J J (Qv J J J (Qj (hK _ _ (Qz (Qw (Qw ?_))))))); clear hK K; refine Qx (fun K hK => ?_); refine QV J J J fWr0 J (QY J J J J J lAddr J (QV J J J fWr0 J (QY J J J J J lAddr J (Qk ineq J J J J (Qj (hK _ _ (Qz ?_))))))); clear hK K; refine Q2 J (fun h => ?_) (fun h => ?_)
  · rw [if_neg (fun h2 => h (by rw [h2]))] at e; refine Qw (Qx fun K hK => ?_); refine QV J J J fWr0 J (QY J J J J J lAddr J (Xe J J uAddr uInt' (wrap_fin _) J (QV J J J fWr0 J (QY J J J J J lAddr J (Xe J J uAddr uInt' (wrap_fin _) J (QW gorless (rless_ok _ _) J J J J (Qv J J J (Qj (hK _ _ (Qz (Q0 (QZ ?_)))))))))))); clear hK K; refine QU [_] rfl (Qu J QQ) (by rw [e]; rfl) J
  · rw [if_pos (Fin.ext (by omega))] at e; refine Q1 (Qz (Qw (Qx fun K hK => ?_))); refine QV J J J fWr1 J (QY J J J J J lAddr J (Xe J J uAddr uInt' (wrap_fin _) J (QV J J J fWr1 J (QY J J J J J lAddr J (Xe J J uAddr uInt' (wrap_fin _) J (QW gorless (rless_ok _ _) J J J J (Qv J J J (Qj (hK _ _ (Qz (Q0 ?_))))))))))); clear hK K; refine QU [_] rfl (Qu J QQ) (by rw [e]; rfl) J
theorem wrs_ones1 (l : List Wr) : ones (wrs l) = true := el_ones (fun _ => rfl) l
theorem wrs_drop (l : List Wr) (i : Nat) : (wrs l).drop (i * 2) = wrs (l.drop i) := el_drop wr_len l i
theorem wrs_spl (l m : List Wr) (i : Nat) : spl (wrs l) (i * 2) (wrs m) = wrs (l.take i ++ m ++ l.drop (i + m.length)) := by
  unfold spl; rw [wrs_take, Zr, ← Nat.add_mul, wrs_drop, wrs_app, wrs_app]
theorem gorPutWire : InGo Tryz.prog 62 := InGo.of Tryz.func62 rfl (by decide)
set_option maxHeartbeats 16000000 in
theorem rPutWire_ok (out : List Wr) (t : Wr) (hl : out.length ≤ 100000000) : OkT Tryz.prog 62 37 2 (wrs out) [wrC t] (wrs (insW out t)) := by
  refine OkT.enter Tryz.func62 J _ Tryz.ntmps62 J ?_
  intro S w h0; refine Qw (Qx fun K hK => ?_); refine Xz 1 J J J J J J J (Qv J J J (Qj (hK _ _ (Qz (Qw ?_))))); clear hK K; refine Qx (fun K hK => ?_); refine Qv J J J (Qj (hK _ _ (Qz (Qw (Q5 ?_))))); clear hK K
  refine Xx (α := Nat) (fun k => k ≤ out.length ∧ posW out t = k + posW (out.drop k) t)
    (fun k => [(0, .own 0), (3, .own 1), (5, .ct (intC k))]) (fun _ => [(1, .box 37 (wrCs t)), (0, .row 37 2 (wrs out))]) (fun k => out.length - k) 0 ⟨Nat.zero_le _, by rw [Nat.zero_add]; rfl⟩ (by exact QX J ⟨rfl, rfl, rfl, trivial⟩) ?_
  rintro k ⟨hk, hp⟩
  dsimp only at hk hp ⊢; have e4 : (k : Int).toNat = k := Int.toNat_natCast k; refine Qw (Qw ?_); refine Xo (α := Unit) (fun _ => True) (fun _ => [(0, .own 0), (3, .own 1), (5, .ct (intC k)), (18, .ct (boolC (decide (k < out.length ∧ cmpW (out.getD k wr0) t < 0))))]) (fun _ => [(1, .box 37 (wrCs t)), (0, .row 37 2 (wrs out))]) (fun _ _ => ?_) (fun KN hM => ?_); rotate_left
  · refine Xw mixed 13 (.p 0 (.p 1 (.p 2 (.p 3 (.p 4 (.p 5 (.p 6 (.p 7 (.f 8 (.f 9 (.m 10 (.p 11 (.p 12 .done))))))))))))) (by kernel_rfl) (fun K hK => ?_); refine Qq J J J (Qq J J J (ZZ out.length J J J (by decide) (Zr out) sWrs.und J ?_)); refine Qk ilss J J J J (Qq J J J (Q7 10 J (fun h3 => ?_) (fun h3 => ?_)))
    · have heq : decide (k < out.length ∧ cmpW (out.getD k wr0) t < 0) = decide (cmpW (out.getD k wr0) t < 0) := decide_eq_decide.2 ⟨fun h => h.2, fun h => ⟨by omega, h⟩⟩; rw [heq] at hM; refine Qq J J J (Qq J J J (Xu out.length J J J (Zr out) J sWrs (by omega) (by omega) J ?_))
      refine ldE wrCs wr0 wr_len J J J J J (by omega) Xm J ?_
      rw [e4]; refine Q6 (n := 2) J J J J J Xm J (QW gorCompareWire (rCompareWire_ok _ _) J J J J (Qk ilss J J J J (QJ J J J J (Qj (hK _ _ ?_))))); clear hK K; exact Qr hM () trivial (QX J ⟨rfl, rfl, rfl, rfl, trivial⟩)
    · rw [decide_eq_false (fun h => h3 (by omega))] at hM; refine Qy J J J (Qy J J J (Qy J J J (Qy J J J (Qy J J J (Qy J J J (Qy J J J (QK J J J J (Qj (hK _ _ ?_))))))))); clear hK K; exact Qr hM () trivial (QX J ⟨rfl, rfl, rfl, rfl, trivial⟩)
  refine Q2 J (fun h3 => ?_) (fun h3 => ?_)
  · obtain ⟨h3, h4⟩ := h3; rw [dropA (z := wr0) h3, posW_cons, if_pos h4] at hp; refine Q1 (Qz (Q5 (Qx fun K hK => ?_))); refine Qq J J J (Qk (iadd (by omega) (by omega)) J J J J ?_); refine Qv J J J (Qj (hK _ _ (Qd (Q4 ?_)))); clear hK K; refine Q8 (k + 1) (by omega) ⟨by omega, by omega⟩ (by exact QX J ⟨rfl, rfl, by simp only [Int.natCast_add]; rfl, trivial⟩)
  have hpk : posW out t = k := by
    by_cases hkl : k < out.length
    · rw [dropA (z := wr0) hkl, posW_cons, if_neg (fun h => h3 ⟨hkl, h⟩)] at hp; exact hp
    · rw [List.drop_of_length_le (by omega)] at hp; exact hp
  refine Qs (Qz (Qw (Qw ?_))); refine Xo (α := Unit) (fun _ => True) (fun _ => [(0, .own 0), (3, .own 1), (5, .ct (intC k)), (32, .ct (boolC (decide (k < out.length ∧ out.getD k wr0 = t))))]) (fun _ => [(1, .box 37 (wrCs t)), (0, .row 37 2 (wrs out))]) (fun _ _ => ?_) (fun KN hM => ?_); rotate_left
  · refine Xw mixed 12 (.p 0 (.p 1 (.p 2 (.p 3 (.p 4 (.p 5 (.p 6 (.p 7 (.f 8 (.f 9 (.p 10 (.p 11 .done)))))))))))) (by kernel_rfl) (fun K hK => ?_); refine Qq J J J (Qq J J J (ZZ out.length J J J (by decide) (Zr out) sWrs.und J ?_)); refine Qk ilss J J J J (Qq J J J (Q7 25 J (fun h3 => ?_) (fun h3 => ?_)))
    · have heq : decide (k < out.length ∧ out.getD k wr0 = t) = decide (out.getD k wr0 = t) := decide_eq_decide.2 ⟨fun h => h.2, fun h => ⟨by omega, h⟩⟩; rw [heq] at hM; refine Qq J J J (Qq J J J (Xu out.length J J J (Zr out) J sWrs (by omega) (by omega) J ?_))
      refine ldE wrCs wr0 wr_len J J J J J (by omega) Xm J ?_
      rw [e4]; refine Q6 (n := 2) J J J J J Xm J (eqWr (out.getD k wr0) t J J J J J (QJ J J J J (Qj (hK _ _ ?_)))); clear hK K; exact Qr hM () trivial (QX J ⟨rfl, rfl, rfl, rfl, trivial⟩)
    · rw [decide_eq_false (fun h => h3 (by omega))] at hM; refine Qy J J J (Qy J J J (Qy J J J (Qy J J J (Qy J J J (Qy J J J (QK J J J J (Qj (hK _ _ ?_)))))))); clear hK K; exact Qr hM () trivial (QX J ⟨rfl, rfl, rfl, rfl, trivial⟩)
  refine Q2 J (fun h4 => ?_) (fun h4 => ?_)
  · have hput : insW out t = out := by unfold insW; rw [hpk, if_pos h4]
    refine Qw (Qx fun K hK => ?_); refine Qq J J J (Qv J J J (Qj (hK _ _ (Qz (Q0 (QZ ?_)))))); clear hK K; refine Fin.retT J J (by rw [hput]; rfl)
  have hput : insW out t = out.take k ++ t :: out.drop k := by unfold insW; rw [hpk, if_neg h4]
  have e3 : ((k : Int) + 1).toNat = k + 1 := by omega
  generalize hl2' : (out ++ [t]).take (k + 1) ++ ((out ++ [t]).drop k).take (out.length + 1 - (k + 1)) ++ (out ++ [t]).drop (k + 1 + (((out ++ [t]).drop k).take (out.length + 1 - (k + 1))).length) = l2
  have hl3 : l2.set k t = out.take k ++ t :: out.drop k := by rw [← hl2']; exact shift_eqA out t hk
  have hlen2 : k < l2.length := by
    have := congrArg List.length hl3; simp at this; omega
  have hlen3 : l2.length = out.length + 1 := by
    have := congrArg List.length hl3; simp at this; omega
  have hl2 : wrs l2 = spl (wrs (out ++ [t])) (((k : Int) + 1).toNat * 2) (((wrs (out ++ [t])).drop ((k : Int).toNat * 2)).take (min (out.length + 1 - (k : Int).toNat) (out.length + 1 - ((k : Int) + 1).toNat) * 2)) := by
    rw [e3, e4, show min (out.length + 1 - k) (out.length + 1 - (k + 1)) = out.length + 1 - (k + 1) by omega, wrs_drop, wrs_take, wrs_spl, ← hl2']
  refine Q1 (Qz (Qw (Qx fun K hK => ?_))); refine Qq J J J (Q6 (n := 2) J J J J J Xm J (X6 (n := 2) J J sWrs J J (by decide) J ?_))
  refine Qt out.length (wrs (out ++ [t])) J J J J sWrs (Zr out) J (by omega) (by omega) (wrs_snoc out t) J ?_
  refine Qv J J J (Qj (hK _ _ (Qz (Qw ?_)))); clear hK K; refine Xw mixed 7 (.p 0 (.p 1 (.p 2 (.p 4 (.p 5 (.p 3 (.p 6 (.a 7 .done)))))))) (by kernel_rfl) (fun K hK => ?_); refine Qq J J J (Qq J J J (Qk (iadd (by omega) (by omega)) J J J J ?_)); refine Qq J J J (Qq J J J (Ops.copyIn (out.length + 1) (wrs l2) J J J J J sWrs (by rw [Zr]; simp) (by omega) (by omega) (by omega) (by omega) (by omega) (wrs_ones1 _) J hl2 J J J ?_)); refine Qj (hK _ _ (Qz (Qw ?_))); clear hK K; refine Qx (fun K hK => ?_); refine Qq J J J (Qq J J J (Q6 (n := 2) J J J J J Xm J (Xu (out.length + 1) J J J (by rw [Zr, hlen3]) J sWrs (by omega) (by omega) J ?_)))
  refine stE wrCs t wr_len J J J J J (by rw [e4]; omega) szWire ?_
  rw [e4, hl3]; refine Qj (hK _ _ (Qz (Qw ?_))); clear hK K; refine Qx (fun K hK => ?_); refine Qq J J J (Qv J J J (Qj (hK _ _ (Qz (Q0 ?_))))); clear hK K; refine Fin.retT J J (by rw [hput]; rfl)
def wrAt (x : List Ad) (k : Nat) : Wr := (if k = 0 then 0 else x.getD (k - 1) 0, x.getD k 0)
def putF (x : List Ad) (k : Nat) (out : List Wr) : List Wr := (wiresG (if k = 0 then 0 else x.getD (k - 1) 0) (x.drop k) (decide (k = 0))).foldl insW out
theorem putF_step {x : List Ad} {k : Nat} (h : k < x.length) (out : List Wr) : putF x k out = putF x (k + 1) (if (wrAt x k).2 ≠ 0 ∧ (k = 0 ∨ (wrAt x k).1 ≠ 0) then insW out (wrAt x k) else out) := by
  unfold putF; rw [dropA (z := (0 : Ad)) h]; show ((if x.getD k 0 ≠ 0 ∧ (decide (k = 0) = true ∨ (if k = 0 then 0 else x.getD (k - 1) 0) ≠ 0) then [((if k = 0 then 0 else x.getD (k - 1) 0), x.getD k 0)] else []) ++ wiresG (x.getD k 0) (x.drop (k + 1)) false).foldl insW out = _; rw [List.foldl_append, if_neg (Nat.succ_ne_zero k), Nat.add_sub_cancel, decide_eq_false (Nat.succ_ne_zero k)]
  congr 1
  have hw : wrAt x k = ((if k = 0 then 0 else x.getD (k - 1) 0), x.getD k 0) := rfl; rw [hw]; generalize (if k = 0 then (0 : Ad) else x.getD (k - 1) 0) = p; dsimp only; simp only [decide_eq_true_eq]; by_cases c : x.getD k 0 ≠ 0 ∧ (k = 0 ∨ p ≠ 0)
  · rw [if_pos c, if_pos c]; rfl
  · rw [if_neg c, if_neg c]; rfl
theorem putF_end {x : List Ad} {k : Nat} (h : x.length ≤ k) (out : List Wr) : putF x k out = out := by
  unfold putF; rw [List.drop_of_length_le h]; rfl
def putO (x : List Ad) (ok : Bool) (k : Nat) (out : List Wr) : List Wr := if ok = true then putF x k out else out
theorem wiR_put (l : List Rs) (r : Rs) (out : List Wr) : (wiR l r).foldl insW out = putO (wyR l r).1 (wyR l r).2 0 out := by
  unfold wiR putO; split
  · rfl
  · rfl
theorem gorAll : InGo Tryz.prog 25 := InGo.of Tryz.func25 rfl (by decide)
set_option maxHeartbeats 32000000 in
theorem rAll_ok (l : List Rs) (hl : l.length ≤ 10000) (n : Int) : Ok Tryz.prog 25 [rssC l, intC n] (.fr (tupT [cnsC (alR l n).1, intC (alR l n).2])) := by
  have hC := rcheck_ok l hl; have hB := rbudgets_ok n
  have hW := fun r => rway_ok l hl r
  have hN := fun w => rCount_ok l hl w n
  have hwl := fun r => wyR_len l r
  have e : alR l n = if bdB n = false then ([], 1) else if ¬ chkR l = 0 then ([], chkR l) else ((allW l l []).map fun w => (cntR l w n).1, 0) := rfl
  generalize chkR l = c at hC e; generalize bdB n = b at hB e; generalize hcn : (fun w => (cntR l w n).1) = cn at e
  have hN : ∀ w, ∃ u, Ok Tryz.prog 29 [rssC l, wrC w, intC n] (.fr (tupT [cnC (cn w), intC u])) := fun w => ⟨_, by rw [← hcn]; exact hN w⟩
  clear hcn; generalize alR l n = res at e ⊢; generalize hall : allW l l [] = all at e
  refine Ok.enter Tryz.func25 J _ Tryz.ntmps25 J ?_
  intro S w0; refine Qw (Qx fun K hK => ?_); refine Qv J J J (Qv J J J (Qj (hK _ _ (Qz (Qw (Qw ?_)))))); clear hK K; refine Qx (fun K hK => ?_); refine Qq J J J (QW gorbudgets hB J J J J (Qm J J J (Qj (hK _ _ (Qz ?_))))); clear hK K; refine XZ J (fun h1 => ?_) (fun h1 => ?_)
  · rw [if_pos (by cases b with | true => cases h1 | false => rfl)] at e; refine Qw (Qx fun K hK => ?_); refine Qv J J J (Qv J J J (Qj (hK _ _ (Qz (Q0 (QZ ?_)))))); clear hK K; refine QU [_, _] rfl (Xj X5 (Qu J (Qu J QQ))) (by rw [e]; rfl) J
  rw [if_neg (by cases b with | true => decide | false => cases h1)] at e; refine Q1 (Qz (Qw (Qw (Qx fun K hK => ?_)))); refine Qq J J J (QW gorcheck hC J J J J (Qv J J J (Qj (hK _ _ (Qz (Qw ?_)))))); clear hK K; refine Qx (fun K hK => ?_); refine Qq J J J (Qk ineq J J J J (Qj (hK _ _ (Qz ?_)))); clear hK K; refine Q2 J (fun h2 => ?_) (fun h2 => ?_)
  · rw [if_pos h2] at e; refine Qw (Qx fun K hK => ?_); refine Qq J J J (Qv J J J (Qv J J J (Qj (hK _ _ (Qz (Q0 (QZ ?_))))))); clear hK K; refine QU [_, _] rfl (Xj X5 (Qu J (Qu J QQ))) (by rw [e]; rfl) J
  rw [if_neg h2] at e; refine Q1 (Qz (Qw (Qx fun K hK => ?_))); refine Qv J J J (Qj (hK _ _ (Qz (Qw (Qw ?_))))); clear hK K; refine Qx (fun K hK => ?_); refine Qv J J J (Qj (hK _ _ (Qz (Q5 ?_)))); clear hK K
  refine Xg 7 0 37 2 J J J ?_
  skip
  refine Xx (α := Nat × List Wr) (fun q => q.1 ≤ l.length ∧ allW l (l.drop q.1) q.2 = all ∧ q.2.length ≤ q.1 * 257)
    (fun q => [(0, .ct (rssC l)), (1, .ct (intC n)), (7, .own 0), (8, .ct (intC q.1))]) (fun q => [(0, .row 37 2 (wrs q.2))]) (fun q => l.length - q.1) (0, []) ⟨Nat.zero_le _, hall, Nat.zero_le _⟩ (by exact QX J ⟨rfl, rfl, rfl, rfl, trivial⟩) ?_
  clear hall
  rintro ⟨i, out⟩ ⟨hi, hs, hol⟩
  dsimp only at hi hs hol ⊢; refine Qw (Qw (Qx fun K hK => ?_)); refine Qq J J J (Qq J J J (Qb J J sRes.und (List.length_map ..) J (Qk ilss J J J J (Qj (hK _ _ (Qz ?_)))))); clear hK K; refine Q2 J (fun h => ?_) (fun h => ?_)
  · have e2 : (i : Int).toNat = i := Int.toNat_natCast i; rw [dropA (z := rs0) (l := l) (i := i) (by omega)] at hs; refine Q1 (Qz (Qw (Q5 (Qw (Qx fun K hK => ?_))))); refine Qq J J J (Qq J J J (Qq J J J (Qh J J J sRes (by omega) (Xd (by omega) (by omega)) J ?_)))
    refine XX (n := 17) J J J lRes J J ?_
    rw [e2]; generalize l.getD i rs0 = x at hs; have hX := hW x; have hxl := hwl x
    have hs : allW l (l.drop (i + 1)) (putO (wyR l x).1 (wyR l x).2 0 out) = all := by rw [← wiR_put]; exact hs
    generalize wyR l x = y at hX hxl hs; obtain ⟨xs, ok⟩ := y; dsimp only at hX hxl hs; refine QW gorway hX J J J J (Qq J J J (Q9 J J J J (Q9 J J J J (Qv J J J (Qv J J J (Qj (hK _ _ (Qz (Qw ?_))))))))); clear hK K; refine Qx (fun K hK => ?_); refine Qv J J J (Qj (hK _ _ (Qz (Q5 ?_)))); clear hK K
    refine Xx (α := Nat × List Wr) (fun q => q.1 ≤ xs.length ∧ allW l (l.drop (i + 1)) (putO xs ok q.1 q.2) = all ∧ q.2.length ≤ out.length + q.1)
      (fun q => [(0, .ct (rssC l)), (1, .ct (intC n)), (7, .own 0), (8, .ct (intC i)), (9, .ct (adsC xs)), (10, .ct (boolC ok)), (11, .ct (intC q.1))]) (fun q => [(0, .row 37 2 (wrs q.2))]) (fun q => xs.length - q.1) (0, out) ⟨Nat.zero_le _, hs, Nat.le_refl _⟩ (by exact QX J ⟨rfl, rfl, rfl, rfl, rfl, rfl, rfl, trivial⟩) ?_
    clear hs
    rintro ⟨k, o2⟩ ⟨hk, hs, ho2⟩
    dsimp only at hk hs ho2 ⊢; refine Qw (Qw (Xo (α := Unit) (fun _ => True) (fun _ => [(0, .ct (rssC l)), (1, .ct (intC n)), (7, .own 0), (8, .ct (intC i)), (9, .ct (adsC xs)), (10, .ct (boolC ok)), (11, .ct (intC k)), (46, .ct (boolC (decide (k < xs.length ∧ ok = true))))]) (fun _ => [(0, .row 37 2 (wrs o2))]) (fun _ _ => ?_) (fun KN hM => ?_))); rotate_left
    · refine Qx (fun K hK => ?_); refine Qq J J J (Qq J J J (Qb J J sAdrs.und (List.length_map ..) J (Qk ilss J J J J (Qq J J J (Q7 44 J (fun h3 => ?_) (fun h3 => ?_))))))
      · have heq : decide (k < xs.length ∧ ok = true) = ok := by cases ok with | true => exact decide_eq_true ⟨by omega, rfl⟩ | false => exact decide_eq_false (fun h => by cases h.2)
        rw [heq] at hM; refine Qq J J J (QJ J J J J (Qj (hK _ _ ?_))); clear hK K; exact Qr hM () trivial (QX J ⟨rfl, rfl, rfl, rfl, rfl, rfl, rfl, rfl, trivial⟩)
      · rw [decide_eq_false (fun h => h3 (by omega))] at hM; refine Qy J J J (QK J J J J (Qj (hK _ _ ?_))); clear hK K; exact Qr hM () trivial (QX J ⟨rfl, rfl, rfl, rfl, rfl, rfl, rfl, rfl, trivial⟩)
    refine Q2 J (fun h3 => ?_) (fun h3 => ?_); rotate_left
    · have hs : allW l (l.drop (i + 1)) o2 = all := by
        have hp : putO xs ok k o2 = o2 := by
          unfold putO; split
          · exact putF_end (by
              rename_i h5
              have : ¬ k < xs.length := fun h => h3 ⟨h, h5⟩
              omega) _
          · rfl
        rw [hp] at hs; exact hs
      refine Qs (Qz (Qx fun K hK => ?_)); refine Qq J J J (Qk (iadd (by omega) (by omega)) J J J J ?_); refine Qv J J J (Qj (hK _ _ (Q4 ?_))); clear hK K; refine Q8 (i + 1, o2) (by dsimp only; omega) ⟨by dsimp only; omega, hs, by dsimp only; omega⟩ (by exact QX J ⟨rfl, rfl, rfl, by simp only [Int.natCast_add]; rfl, trivial⟩)
    obtain ⟨h3, h4⟩ := h3; subst h4; have hs : allW l (l.drop (i + 1)) (putF xs k o2) = all := hs; rw [putF_step h3] at hs; have e3 : (k : Int).toNat = k := Int.toNat_natCast k; refine Q1 (Qz (Qw (Q5 (Qw (Qx fun K hK => ?_))))); refine Qq J J J (Qq J J J (Qh J J J sAdrs (by omega) (adrs_at (by omega) (by omega)) J ?_)); rw [e3]; refine XQ J J J lAddr J (Qi J bWire J (.one J J J J .nil) J (Qg 1 J J zvWire J J J (Qa 2 J J J J J szWire J J (Qj (hK _ _ ?_))))); clear hK K; refine Qz (Qw (Xo (α := Unit) (fun _ => True) (fun _ => [(0, .ct (rssC l)), (1, .ct (intC n)), (7, .own 0), (8, .ct (intC i)), (9, .ct (adsC xs)), (10, .ct (boolC true)), (11, .ct (intC k)), (12, .own 1)]) (fun _ => [(1, .box 37 (wrCs (wrAt xs k))), (0, .row 37 2 (wrs o2))]) (fun _ _ => ?_) (fun KN hM => ?_))); rotate_left
    · refine Qw (Qx fun K hK => ?_); refine Qq J J J (Qk igtr J J J J (Qj (hK _ _ (Qz ?_)))); clear hK K; refine Q2 J (fun h5 => ?_) (fun h5 => ?_)
      · have hw : wrAt xs k = (xs.getD (k - 1) 0, xs.getD k 0) := by unfold wrAt; rw [if_neg (by omega)]
        have e4 : ((k : Int) - 1).toNat = k - 1 := by omega
        rw [hw] at hM; refine Qx (fun K hK => ?_); refine Qq J J J (Qq J J J (Qk (isub (by omega) (by omega)) J J J J ?_))
        refine Qh J J J sAdrs (by omega) (adrs_at (by omega) (by omega)) J ?_
        rw [e4]; refine XQ J J J lAddr J (QV J J J fWr0 J (XY J J J J J zAddr (Nat.le_of_ble_eq_true J) (Qj (hK _ _ ?_)))); clear hK K; exact Qr hM () trivial (QX J ⟨rfl, rfl, rfl, rfl, rfl, rfl, rfl, rfl, trivial⟩)
      · have hw : wrAt xs k = (0, xs.getD k 0) := by unfold wrAt; rw [if_pos (by omega)]
        rw [hw] at hM
        refine Q1 ?_
        exact Qr hM () trivial (QX J ⟨rfl, rfl, rfl, rfl, rfl, rfl, rfl, rfl, trivial⟩)
    generalize wrAt xs k = v at hs ⊢; refine Qw (Xo (α := Unit) (fun _ => True) (fun _ => [(0, .ct (rssC l)), (1, .ct (intC n)), (7, .own 0), (8, .ct (intC i)), (9, .ct (adsC xs)), (10, .ct (boolC true)), (11, .ct (intC k)), (12, .own 1), (73, .ct (boolC (decide (v.2 ≠ 0 ∧ (k = 0 ∨ v.1 ≠ 0)))))]) (fun _ => [(1, .box 37 (wrCs v)), (0, .row 37 2 (wrs o2))]) (fun _ _ => ?_) (fun KN hM => ?_)); rotate_left
    · refine Qx (fun K hK => ?_); refine QV J J J fWr1 J (QY J J J J J lAddr J (Qk ineq J J J J (Qq J J J (Q7 65 J (fun h5 => ?_) (fun h5 => ?_)))))
      · have h5 : v.2 ≠ 0 := fun h => h5 (by rw [h]; rfl)
        refine Qq J J J (Qk ieql J J J J (Qq J J J (Q7 68 J (fun h6 => ?_) (fun h6 => ?_))))
        · rw [decide_eq_true ⟨h5, .inl (by omega)⟩] at hM; refine Qy J J J (Qy J J J (Qy J J J (QJ J J J J (QJ J J J J (Qj (hK _ _ ?_)))))); clear hK K; exact Qr hM () trivial (QX J ⟨rfl, rfl, rfl, rfl, rfl, rfl, rfl, rfl, rfl, trivial⟩)
        · have heq : decide (v.2 ≠ 0 ∧ (k = 0 ∨ v.1 ≠ 0)) = decide ((v.1.val : Int) ≠ 0) := decide_eq_decide.2 ⟨fun h => (h.2.resolve_left (by omega)) ∘ fun h => Fin.ext (by show v.1.val = 0; omega), fun h => ⟨h5, .inr fun h2 => h (by rw [h2]; rfl)⟩⟩; rw [heq] at hM; refine QV J J J fWr0 J (QY J J J J J lAddr J (Qk ineq J J J J (QK J J J J (QJ J J J J (Qj (hK _ _ ?_)))))); clear hK K; exact Qr hM () trivial (QX J ⟨rfl, rfl, rfl, rfl, rfl, rfl, rfl, rfl, rfl, trivial⟩)
      · rw [decide_eq_false (fun h => h.1 (Fin.ext (by show v.2.val = 0; omega)))] at hM; refine Qy J J J (Qy J J J (Qy J J J (Qy J J J (Qy J J J (Qy J J J (Qy J J J (QK J J J J (Qj (hK _ _ ?_))))))))); clear hK K; exact Qr hM () trivial (QX J ⟨rfl, rfl, rfl, rfl, rfl, rfl, rfl, rfl, rfl, trivial⟩)
    refine Q2 J (fun h5 => ?_) (fun h5 => ?_)
    · rw [if_pos h5] at hs; have hil := insW_len o2 v; refine Qx (fun K hK => ?_); refine Qq J J J (Q6 (n := 2) J J J J J Xm J (Ops.callT gorPutWire (rPutWire_ok o2 v (by omega)) J J J J J ?_)); refine Qv J J J (Qj (hK _ _ (Qz ?_))); clear hK K; refine Qx (fun K hK => ?_); refine Qq J J J (Qk (iadd (by omega) (by omega)) J J J J ?_); refine Qv J J J (Qj (hK _ _ (Q4 ?_))); clear hK K; refine Ql 1 (Q8 (k + 1, insW o2 v) (by dsimp only; omega) ⟨by dsimp only; omega, hs, by dsimp only; omega⟩ (by exact QX J ⟨rfl, rfl, rfl, rfl, rfl, rfl, by simp only [Int.natCast_add]; rfl, trivial⟩))
    · rw [if_neg h5] at hs; refine Q1 (Qz (Qx fun K hK => ?_)); refine Qq J J J (Qk (iadd (by omega) (by omega)) J J J J ?_); refine Qv J J J (Qj (hK _ _ (Q4 ?_))); clear hK K; refine Ql 1 (Q8 (k + 1, o2) (by dsimp only; omega) ⟨by dsimp only; omega, hs, by dsimp only; omega⟩ (by exact QX J ⟨rfl, rfl, rfl, rfl, rfl, rfl, by simp only [Int.natCast_add]; rfl, trivial⟩))
  have hi' : i = l.length := by omega
  rw [hi', List.drop_length] at hs; have hs : out = all := hs; subst hs; rw [hi'] at hol; clear hi' h hi
  have hol : out.length ≤ 2570000 := by omega
  refine Qs (Qz (Qw (Qx fun K hK => ?_))); refine Qv J J J (Qj (hK _ _ (Qz (Qw (Qw ?_))))); clear hK K; refine Qx (fun K hK => ?_); refine Qv J J J (Qj (hK _ _ (Qz (Q5 ?_)))); clear hK K
  refine Xg 13 1 39 5 J J J ?_
  skip
  refine Xx (α := Nat) (fun j => j ≤ out.length)
    (fun j => [(0, .ct (rssC l)), (1, .ct (intC n)), (7, .own 0), (13, .own 1), (14, .ct (intC j))]) (fun j => [(1, .row 39 5 (cns ((out.take j).map cn))), (0, .row 37 2 (wrs out))]) (fun j => out.length - j) 0 (Nat.zero_le _) (by exact QX J ⟨rfl, rfl, rfl, rfl, rfl, trivial⟩) ?_
  intro j hj
  try dsimp only at hj ⊢
  refine Qw (Qw (Qx fun K hK => ?_)); refine Qq J J J (Qq J J J (ZZ out.length J J J (by decide) (Zr out) sWrs.und J ?_)); refine Qk ilss J J J J (Qj (hK _ _ (Qz ?_))); clear hK K; refine Q2 J (fun h => ?_) (fun h => ?_); rotate_left
  · have hj' : j = out.length := by omega
    rw [hj', List.take_length]; refine Qs (Qz (Qw (Qx fun K hK => ?_))); refine Qq J J J (Qv J J J (Qv J J J (Qj (hK _ _ (Qz (Q0 ?_)))))); clear hK K; refine Z6 1 _ J (cns_frozen _ _) noBor_sub (QU [_, _] rfl (Qu J (Qu J QQ)) (by rw [e]; rfl) J)
  have e5 : (j : Int).toNat = j := Int.toNat_natCast j
  have hs5 : (out.take (j + 1)).map cn = (out.take j).map cn ++ [cn (out.getD j wr0)] := by rw [take_snoc (z := wr0) (by omega), List.map_append]; rfl
  have hlj : ((out.take j).map cn).length = j := by rw [List.length_map, List.length_take]; omega
  refine Q1 (Qz (Qw (Q5 (Qw (Qx fun K hK => ?_))))); refine Qq J J J (Qq J J J (Qq J J J (Xu out.length J J J (Zr out) J sWrs (by omega) (by omega) J ?_)))
  refine ldE wrCs wr0 wr_len J J J J J (by omega) Xm J ?_
  rw [e5]; generalize out.getD j wr0 = v at hs5; obtain ⟨u, hN⟩ := hN v; generalize cn v = cv at hN hs5; generalize (out.take j).map cn = m at hlj hs5 ⊢; refine Qq J J J (QW gorCount hN J J J J (Qq J J J (Q9 J J J J (Q9 J J J J (Qg 2 J J zvCn J J J (Qa 5 J J J J J szCn J J (Qv J J J (Qj (hK _ _ (Qz ?_)))))))))); clear hK K; refine Qx (fun K hK => ?_); refine Qq J J J (Q6 (n := 5) J J J J J lCn J (X6 (n := 5) J J sCns J J (by decide) J ?_))
  refine Qt m.length (cns (m ++ [cv])) J J J J sCns (cns_len m) J (by omega) (by omega) (cns_snoc m cv) J ?_
  refine Qv J J J (Qj (hK _ _ (Qz ?_))); clear hK K; refine Qx (fun K hK => ?_); refine Qq J J J (Qk (iadd (by omega) (by omega)) J J J J ?_); refine Qv J J J (Qj (hK _ _ (Q4 ?_))); clear hK K; refine Ql 2 (Q8 (j + 1) (by omega) (by omega) (by rw [hs5]; exact QX J ⟨rfl, rfl, rfl, rfl, by simp only [Int.natCast_add]; rfl, trivial⟩))
def frZ : Fr := ⟨false, 0, 0⟩
def rateC (c : Cn) : CT := if c.lo < 0 ∨ c.hi < c.lo ∨ c.se < c.hi ∨ c.se < 1 then .fr (tupT [fracC frZ, fracC frZ, intC 1]) else .fr (tupT [ratC (Rat.divInt c.lo c.se), ratC (Rat.divInt c.hi c.se), intC 0])
theorem goRate : InGo Tryz.prog 19 := InGo.of Tryz.func19 rfl (by decide)
set_option maxHeartbeats 8000000 in
theorem Rate_ok (c : Cn) (h1 : -9223372036854775808 ≤ c.lo ∧ c.lo < 9223372036854775808) (h2 : -9223372036854775808 ≤ c.hi ∧ c.hi < 9223372036854775808) (h3 : -9223372036854775808 ≤ c.se ∧ c.se < 1073741824) : Ok Tryz.prog 19 [cnC c] (rateC c) := by
  have e : rateC c = if c.lo < 0 ∨ c.hi < c.lo ∨ c.se < c.hi ∨ c.se < 1 then .fr (tupT [fracC frZ, fracC frZ, intC 1]) else .fr (tupT [ratC (Rat.divInt c.lo c.se), ratC (Rat.divInt c.hi c.se), intC 0]) := rfl
  generalize rateC c = out at e ⊢
  refine Ok.enter Tryz.func19 J _ Tryz.ntmps19 J ?_
  intro S w0; refine Qw (Qx (fun K hK => ?_)); refine Xz 0 J J J J J J J (Qg 1 J J zvFrac J J J (Qg 2 J J zvFrac J J J (Qv J J J (Qj (hK _ _ (Qz (Qw (Qw ?_)))))))); clear hK K; refine Qx (fun K hK => ?_); refine QV J J J fCn2 J (QY J J J J J lInt J (Qk ilss J J J J (Qq J J J (Q7 8 J (fun g1 => ?_) (fun g1 => ?_)))))
  · rw [if_pos (.inl g1)] at e; refine Qy J J J (Qy J J J (Qy J J J (Qy J J J (Qy J J J (QJ J J J J (Qq J J J (Qy J J J (Qy J J J (Qy J J J (Qy J J J (Qy J J J (QJ J J J J (Qq J J J (Qy J J J (Qy J J J (Qy J J J (QJ J J J J (Qj (hK _ _ (Qz (Qp J (Qw ?_)))))))))))))))))))))); clear hK K; refine Qx (fun K hK => ?_); refine Qi J Za J .nil J (Qi J Za J .nil J (Qa 3 J J J J J szFrac J J (Qa 3 J J J J J szFrac J J (Qv J J J (Qj (hK _ _ (Qz (Q0 (QZ ?_))))))))); clear hK K; refine QU [_, _, _] rfl (Xj (Yz (ds := [boolC false, intsC [], intsC []]) (by exact ⟨ZJ, X5, X5, trivial⟩)) (Qc (n := 3) J J Xa J (Xj (Yz (ds := [boolC false, intsC [], intsC []]) (by exact ⟨ZJ, X5, X5, trivial⟩)) (Qc (n := 3) J J Xa J (Qu J QQ))))) (by rw [e]; show CT.fr (tupT [.fr (aggT [boolC false, intsC (limbs 0), intsC (limbs 0)]), .fr (aggT [boolC false, intsC (limbs 0), intsC (limbs 0)]), intC 1]) = _; rw [limbs_zero]; rfl) J
  refine QV J J J fCn2 J (QY J J J J J lInt J (QV J J J fCn3 J (QY J J J J J lInt J (Qk igtr J J J J (QK J J J J (Qq J J J (Q7 15 J (fun g2 => ?_) (fun g2 => ?_))))))))
  · rw [if_pos (.inr (.inl g2))] at e; refine Qy J J J (Qy J J J (Qy J J J (Qy J J J (Qy J J J (QJ J J J J (Qq J J J (Qy J J J (Qy J J J (Qy J J J (QJ J J J J (Qj (hK _ _ (Qz (Qp J (Qw ?_))))))))))))))); clear hK K; refine Qx (fun K hK => ?_); refine Qi J Za J .nil J (Qi J Za J .nil J (Qa 3 J J J J J szFrac J J (Qa 3 J J J J J szFrac J J (Qv J J J (Qj (hK _ _ (Qz (Q0 (QZ ?_))))))))); clear hK K; refine QU [_, _, _] rfl (Xj (Yz (ds := [boolC false, intsC [], intsC []]) (by exact ⟨ZJ, X5, X5, trivial⟩)) (Qc (n := 3) J J Xa J (Xj (Yz (ds := [boolC false, intsC [], intsC []]) (by exact ⟨ZJ, X5, X5, trivial⟩)) (Qc (n := 3) J J Xa J (Qu J QQ))))) (by rw [e]; show CT.fr (tupT [.fr (aggT [boolC false, intsC (limbs 0), intsC (limbs 0)]), .fr (aggT [boolC false, intsC (limbs 0), intsC (limbs 0)]), intC 1]) = _; rw [limbs_zero]; rfl) J
  refine QV J J J fCn3 J (QY J J J J J lInt J (QV J J J fCn1 J (QY J J J J J lInt J (Qk igtr J J J J (QK J J J J (Qq J J J (Q7 22 J (fun g3 => ?_) (fun g3 => ?_))))))))
  · rw [if_pos (.inr (.inr (.inl g3)))] at e; refine Qy J J J (Qy J J J (Qy J J J (QJ J J J J (Qj (hK _ _ (Qz (Qp J (Qw ?_)))))))); clear hK K; refine Qx (fun K hK => ?_); refine Qi J Za J .nil J (Qi J Za J .nil J (Qa 3 J J J J J szFrac J J (Qa 3 J J J J J szFrac J J (Qv J J J (Qj (hK _ _ (Qz (Q0 (QZ ?_))))))))); clear hK K; refine QU [_, _, _] rfl (Xj (Yz (ds := [boolC false, intsC [], intsC []]) (by exact ⟨ZJ, X5, X5, trivial⟩)) (Qc (n := 3) J J Xa J (Xj (Yz (ds := [boolC false, intsC [], intsC []]) (by exact ⟨ZJ, X5, X5, trivial⟩)) (Qc (n := 3) J J Xa J (Qu J QQ))))) (by rw [e]; show CT.fr (tupT [.fr (aggT [boolC false, intsC (limbs 0), intsC (limbs 0)]), .fr (aggT [boolC false, intsC (limbs 0), intsC (limbs 0)]), intC 1]) = _; rw [limbs_zero]; rfl) J
  refine QV J J J fCn1 J (QY J J J J J lInt J (Qk ilss J J J J (QK J J J J (Qj (hK _ _ (Qz ?_)))))); clear hK K; refine Q2 J (fun g4 => ?_) (fun g4 => ?_)
  · rw [if_pos (.inr (.inr (.inr g4)))] at e; refine Qw (Qx fun K hK => ?_); refine Qi J Za J .nil J (Qi J Za J .nil J (Qa 3 J J J J J szFrac J J (Qa 3 J J J J J szFrac J J (Qv J J J (Qj (hK _ _ (Qz (Q0 (QZ ?_))))))))); clear hK K; refine QU [_, _, _] rfl (Xj (Yz (ds := [boolC false, intsC [], intsC []]) (by exact ⟨ZJ, X5, X5, trivial⟩)) (Qc (n := 3) J J Xa J (Xj (Yz (ds := [boolC false, intsC [], intsC []]) (by exact ⟨ZJ, X5, X5, trivial⟩)) (Qc (n := 3) J J Xa J (Qu J QQ))))) (by rw [e]; show CT.fr (tupT [.fr (aggT [boolC false, intsC (limbs 0), intsC (limbs 0)]), .fr (aggT [boolC false, intsC (limbs 0), intsC (limbs 0)]), intC 1]) = _; rw [limbs_zero]; rfl) J
  rw [if_neg (fun h => h.elim g1 (fun h => h.elim g2 (fun h => h.elim g3 g4)))] at e; have hF1 := FFrom_ok c.lo c.se (by omega) (by omega) (by omega) (by omega) (by omega); have hF2 := FFrom_ok c.hi c.se (by omega) (by omega) (by omega) (by omega) (by omega); refine Q1 (Qz (Qw (Qx fun K hK => ?_))); refine QV J J J fCn2 J (QY J J J J J lInt J (QV J J J fCn1 J (QY J J J J J lInt J (QW goFFrom hF1 J J J J (Qq J J J (Q9 J J J J (Q9 J J J J (Qa 3 J J J J J szFrac J J (Qj (hK _ _ (Qz (Qw ?_)))))))))))); clear hK K; refine Qx (fun K hK => ?_); refine QV J J J fCn3 J (QY J J J J J lInt J (QV J J J fCn1 J (QY J J J J J lInt J (QW goFFrom hF2 J J J J (Qq J J J (Q9 J J J J (Q9 J J J J (Qa 3 J J J J J szFrac J J (Qj (hK _ _ (Qz (Qw ?_)))))))))))); clear hK K; refine Yq mixed [2, 3] (.f 0 (.m 1 (.a 2 (.a 3 (.p 4 .done) .non) .non) (.a 2 (.f 1 (.a 3 (.p 4 .done) .non)) .non))) (by kernel_rfl) (fun K hK => ?_); refine XU (Q6 (n := 3) J J J J J Xa J (Qj (X1 ?_ ?_)))
  · refine Q6 (n := 3) J J J J J Xa J (Qj (Xk ?_ Qf)); refine Qa 3 J J J J J szFrac J J (Qj (Xk ?_ Qf)); refine Qa 3 J J J J J szFrac J J (Qj (Qo (Qv J J J (Qj (Xy (hK _ _ ?_)))))); refine Qz (Q0 ?_); refine QU [_, _, _] rfl (Qc (n := 3) J J Xa J (Qc (n := 3) J J Xa J (Qu J QQ))) (by rw [e]; rfl) J
  refine Xk ?_ Qf
  refine Qa 3 J J J J J szFrac J J (Qj (XU (Q6 (n := 3) J J J J J Xa J (Qj (Xk ?_ Qf))))); refine Qa 3 J J J J J szFrac J J (Qj (Qo (Qv J J J (Qj (Xy (hK _ _ ?_)))))); refine Qz (Q0 ?_); refine QU [_, _, _] rfl (Qc (n := 3) J J Xa J (Qc (n := 3) J J Xa J (Qu J QQ))) (by rw [e]; rfl) J
theorem redF_self (q : Rat) : redF (ofQ q).neg (ofQ q).num (ofQ q).den = ofQ q := by
  have h := from_redF q.num q.den (by have := q.den_nz; omega); rw [Rat.num_divInt_den] at h
  refine Eq.trans ?_ h
  show redF (decide (q.num < 0)) q.num.natAbs q.den = redF (decide (q.num < 0) != decide ((q.den : Int) < 0)) q.num.natAbs (q.den : Int).natAbs; rw [decide_eq_false (show ¬ (q.den : Int) < 0 by omega), Int.natAbs_natCast]
  cases decide (q.num < 0) <;> rfl
theorem divInt_len (a b : Int) (h0 : b ≠ 0) (h1 : -9223372036854775808 ≤ a ∧ a < 9223372036854775808) (h2 : -9223372036854775808 ≤ b ∧ b < 9223372036854775808) : (limbs (ofQ (Rat.divInt a b)).num).length ≤ 3 ∧ (limbs (ofQ (Rat.divInt a b)).den).length ≤ 3 := by
  rw [← from_redF a b h0]; have h3 : (redF (decide (a < 0) != decide (b < 0)) a.natAbs b.natAbs).num ≤ a.natAbs ∧ (redF (decide (a < 0) != decide (b < 0)) a.natAbs b.natAbs).den ≤ b.natAbs := ⟨Nat.div_le_self .., Nat.div_le_self ..⟩; exact ⟨XW (k := 3) (by omega), XW (k := 3) (by omega)⟩
theorem gor03Reduce : InGo Tryz.prog 70 := InGo.of Tryz.func70 rfl (by decide)
theorem r03Reduce_ok (q : Rat) (a3 : (limbs (ofQ q).num).length ≤ 3) (a4 : (limbs (ofQ q).den).length ≤ 3) : Ok Tryz.prog 70 [ratC q] (ratC q) := by
  have hr := rreduced_ok (ofQ q).neg (ofQ q).num (ofQ q).den q.den_pos (by omega) (by omega); rw [redF_self] at hr
  refine Ok.enter Tryz.func70 J _ Tryz.ntmps70 J ?_
  intro S w; refine Qw (Qx fun K hK => ?_); refine Xz 0 J J J J J J J (Qg 1 J J zvFrac J J J (Qj (hK _ _ (Qz (Qw ?_))))); clear hK K; refine Qx (fun K hK => ?_); refine QV J J J fF0 J (QY J J J J J lBool J (QV J J J fF1 J (QY J J J J J lNat J (QV J J J fF2 J (QY J J J J J lNat J (QW gorreduced hr J J J J (Qa 3 J J J J J szFrac J J (Qj (hK _ _ (Qz (Q0 ?_))))))))))); clear hK K; refine QU [_] rfl (Qc (n := 3) J J Xa J QQ) J J
theorem gorRate : InGo Tryz.prog 33 := InGo.of Tryz.func33 rfl (by decide)
set_option maxHeartbeats 8000000 in
theorem rRate_ok (c : Cn) (h1 : -9223372036854775808 ≤ c.lo ∧ c.lo < 9223372036854775808) (h2 : -9223372036854775808 ≤ c.hi ∧ c.hi < 9223372036854775808) (h3 : -9223372036854775808 ≤ c.se ∧ c.se < 9223372036854775808) : Ok Tryz.prog 33 [cnC c] (rateC c) := by
  have e : rateC c = if c.lo < 0 ∨ c.hi < c.lo ∨ c.se < c.hi ∨ c.se < 1 then .fr (tupT [fracC frZ, fracC frZ, intC 1]) else .fr (tupT [ratC (Rat.divInt c.lo c.se), ratC (Rat.divInt c.hi c.se), intC 0]) := rfl
  generalize rateC c = out at e ⊢
  refine Ok.enter Tryz.func33 J _ Tryz.ntmps33 J ?_
  intro S w0; refine Qw (Qx (fun K hK => ?_)); refine Xz 0 J J J J J J J (Qg 1 J J zvFrac J J J (Qg 2 J J zvFrac J J J (Qv J J J (Qj (hK _ _ (Qz (Qw (Qw ?_)))))))); clear hK K; refine Qx (fun K hK => ?_); refine QV J J J fCn2 J (QY J J J J J lInt J (Qk ilss J J J J (Qq J J J (Q7 8 J (fun g1 => ?_) (fun g1 => ?_)))))
  · rw [if_pos (.inl g1)] at e; refine Qy J J J (Qy J J J (Qy J J J (Qy J J J (Qy J J J (QJ J J J J (Qq J J J (Qy J J J (Qy J J J (Qy J J J (Qy J J J (Qy J J J (QJ J J J J (Qq J J J (Qy J J J (Qy J J J (Qy J J J (QJ J J J J (Qj (hK _ _ (Qz (Qp J (Qw ?_)))))))))))))))))))))); clear hK K; refine Qx (fun K hK => ?_); refine Qi J Za J .nil J (Qi J Za J .nil J (Qa 3 J J J J J szFrac J J (Qa 3 J J J J J szFrac J J (Qv J J J (Qj (hK _ _ (Qz (Q0 (QZ ?_))))))))); clear hK K; refine QU [_, _, _] rfl (Xj (Yz (ds := [boolC false, intsC [], intsC []]) (by exact ⟨ZJ, X5, X5, trivial⟩)) (Qc (n := 3) J J Xa J (Xj (Yz (ds := [boolC false, intsC [], intsC []]) (by exact ⟨ZJ, X5, X5, trivial⟩)) (Qc (n := 3) J J Xa J (Qu J QQ))))) (by rw [e]; show CT.fr (tupT [.fr (aggT [boolC false, intsC (limbs 0), intsC (limbs 0)]), .fr (aggT [boolC false, intsC (limbs 0), intsC (limbs 0)]), intC 1]) = _; rw [limbs_zero]; rfl) J
  refine QV J J J fCn2 J (QY J J J J J lInt J (QV J J J fCn3 J (QY J J J J J lInt J (Qk igtr J J J J (QK J J J J (Qq J J J (Q7 15 J (fun g2 => ?_) (fun g2 => ?_))))))))
  · rw [if_pos (.inr (.inl g2))] at e; refine Qy J J J (Qy J J J (Qy J J J (Qy J J J (Qy J J J (QJ J J J J (Qq J J J (Qy J J J (Qy J J J (Qy J J J (QJ J J J J (Qj (hK _ _ (Qz (Qp J (Qw ?_))))))))))))))); clear hK K; refine Qx (fun K hK => ?_); refine Qi J Za J .nil J (Qi J Za J .nil J (Qa 3 J J J J J szFrac J J (Qa 3 J J J J J szFrac J J (Qv J J J (Qj (hK _ _ (Qz (Q0 (QZ ?_))))))))); clear hK K; refine QU [_, _, _] rfl (Xj (Yz (ds := [boolC false, intsC [], intsC []]) (by exact ⟨ZJ, X5, X5, trivial⟩)) (Qc (n := 3) J J Xa J (Xj (Yz (ds := [boolC false, intsC [], intsC []]) (by exact ⟨ZJ, X5, X5, trivial⟩)) (Qc (n := 3) J J Xa J (Qu J QQ))))) (by rw [e]; show CT.fr (tupT [.fr (aggT [boolC false, intsC (limbs 0), intsC (limbs 0)]), .fr (aggT [boolC false, intsC (limbs 0), intsC (limbs 0)]), intC 1]) = _; rw [limbs_zero]; rfl) J
  refine QV J J J fCn3 J (QY J J J J J lInt J (QV J J J fCn1 J (QY J J J J J lInt J (Qk igtr J J J J (QK J J J J (Qq J J J (Q7 22 J (fun g3 => ?_) (fun g3 => ?_))))))))
  · rw [if_pos (.inr (.inr (.inl g3)))] at e; refine Qy J J J (Qy J J J (Qy J J J (QJ J J J J (Qj (hK _ _ (Qz (Qp J (Qw ?_)))))))); clear hK K; refine Qx (fun K hK => ?_); refine Qi J Za J .nil J (Qi J Za J .nil J (Qa 3 J J J J J szFrac J J (Qa 3 J J J J J szFrac J J (Qv J J J (Qj (hK _ _ (Qz (Q0 (QZ ?_))))))))); clear hK K; refine QU [_, _, _] rfl (Xj (Yz (ds := [boolC false, intsC [], intsC []]) (by exact ⟨ZJ, X5, X5, trivial⟩)) (Qc (n := 3) J J Xa J (Xj (Yz (ds := [boolC false, intsC [], intsC []]) (by exact ⟨ZJ, X5, X5, trivial⟩)) (Qc (n := 3) J J Xa J (Qu J QQ))))) (by rw [e]; show CT.fr (tupT [.fr (aggT [boolC false, intsC (limbs 0), intsC (limbs 0)]), .fr (aggT [boolC false, intsC (limbs 0), intsC (limbs 0)]), intC 1]) = _; rw [limbs_zero]; rfl) J
  refine QV J J J fCn1 J (QY J J J J J lInt J (Qk ilss J J J J (QK J J J J (Qj (hK _ _ (Qz ?_)))))); clear hK K; refine Q2 J (fun g4 => ?_) (fun g4 => ?_)
  · rw [if_pos (.inr (.inr (.inr g4)))] at e; refine Qw (Qx fun K hK => ?_); refine Qi J Za J .nil J (Qi J Za J .nil J (Qa 3 J J J J J szFrac J J (Qa 3 J J J J J szFrac J J (Qv J J J (Qj (hK _ _ (Qz (Q0 (QZ ?_))))))))); clear hK K; refine QU [_, _, _] rfl (Xj (Yz (ds := [boolC false, intsC [], intsC []]) (by exact ⟨ZJ, X5, X5, trivial⟩)) (Qc (n := 3) J J Xa J (Xj (Yz (ds := [boolC false, intsC [], intsC []]) (by exact ⟨ZJ, X5, X5, trivial⟩)) (Qc (n := 3) J J Xa J (Qu J QQ))))) (by rw [e]; show CT.fr (tupT [.fr (aggT [boolC false, intsC (limbs 0), intsC (limbs 0)]), .fr (aggT [boolC false, intsC (limbs 0), intsC (limbs 0)]), intC 1]) = _; rw [limbs_zero]; rfl) J
  rw [if_neg (fun h => h.elim g1 (fun h => h.elim g2 (fun h => h.elim g3 g4)))] at e; have hF1 := rFrom_ok c.lo c.se (by omega) (by omega) (by omega) (by omega) (by omega); obtain ⟨hz1, hz1'⟩ := divInt_len c.lo c.se (by omega) (by omega) (by omega); obtain ⟨hz2, hz2'⟩ := divInt_len c.hi c.se (by omega) (by omega) (by omega); have hF2 := rFrom_ok c.hi c.se (by omega) (by omega) (by omega) (by omega) (by omega); refine Q1 (Qz (Qw (Qx fun K hK => ?_))); refine QV J J J fCn2 J (QY J J J J J lInt J (QV J J J fCn1 J (QY J J J J J lInt J (QW gorFrom hF1 J J J J (Qq J J J (Q9 J J J J (Q9 J J J J (Qa 3 J J J J J szFrac J J (Qj (hK _ _ (Qz (Qw ?_)))))))))))); clear hK K; refine Qx (fun K hK => ?_); refine QV J J J fCn3 J (QY J J J J J lInt J (QV J J J fCn1 J (QY J J J J J lInt J (QW gorFrom hF2 J J J J (Qq J J J (Q9 J J J J (Q9 J J J J (Qa 3 J J J J J szFrac J J (Qj (hK _ _ (Qz (Qw ?_)))))))))))); clear hK K; refine Yq mixed [4, 5] (.f 0 (.f 2 (.m 1 (.m 3 (.a 4 (.a 5 (.p 6 .done) .non) .non) .non) .non))) (by kernel_rfl) (fun K hK => ?_); refine XU (Q6 (n := 3) J J J J J Xa J (Qj (XU (Q6 (n := 3) J J J J J Xa J (Qj (X1 ?_ Qf)))))); refine QW gor03Reduce (r03Reduce_ok _ hz1 hz1') J J J J (Qj (X1 ?_ Qf))
  refine QW gor03Reduce (r03Reduce_ok _ hz2 hz2') J J J J (Qj (Xk ?_ Qf)); refine Qa 3 J J J J J szFrac J J (Qj (Xk ?_ Qf)); refine Qa 3 J J J J J szFrac J J (Qj (Qo (Qv J J J (Qj (Xy (hK _ _ ?_)))))); refine Qz (Q0 ?_); refine QU [_, _, _] rfl (Qc (n := 3) J J Xa J (Qc (n := 3) J J Xa J (Qu J QQ))) (by rw [e]; rfl) J
end Go.Proofs.YtlkdkbdgnjcopaaGreat
namespace Go.Own
open Go.RowKit
variable {X : Ctx} {L : AL} {B : BL} {ops : Array Oper} {K : Act → World → Prop} {r : Pl} {k : Kd}
  {x y z : Operand} {d : Nat} {t t2 t' : TypeId} {pos : String} {af : Array Edge} {g : Option (Nat × Bool)}
theorem ishl {p j : Int} {kk : IntKind} (n : Nat) (hj : j = (n : Int)) (hn : n ≤ 64) (h1 : -9223372036854775808 ≤ p * 2 ^ n) (h2 : p * 2 ^ n ≤ 9223372036854775807) : IBin .shl .i64 p kk j (.int .i64 (p * 2 ^ n)) := .of fun P t w => by
  show (Op.shift .shl .i64 p kk j).run P w = _
  have e : (Op.shift .shl .i64 p kk j) = pure (.int .i64 (IntKind.i64.wrap (p * 2 ^ n))) := by
    unfold Op.shift; rw [if_neg (by omega)]
    have : min j.toNat IntKind.i64.bits = n := by show min j.toNat 64 = n; omega
    simp only [this]
  rw [e, Z2 h1 h2]; rfl
theorem ishr {p j : Int} {kk : IntKind} (n : Nat) (hj : j = (n : Int)) (hn : n ≤ 64) : IBin .shr .i64 p kk j (.int .i64 (p / 2 ^ n)) := .of fun P t w => by
  show (Op.shift .shr .i64 p kk j).run P w = _
  have e : (Op.shift .shr .i64 p kk j) = pure (.int .i64 (p.fdiv (2 ^ n))) := by
    unfold Op.shift; rw [if_neg (by omega)]
    have : min j.toNat IntKind.i64.bits = n := by show min j.toNat 64 = n; omega
    simp only [this]
  rw [e, Int.fdiv_eq_ediv_of_nonneg _ (Int.le_of_lt (Int.pow_pos (by decide)))]; rfl
theorem ushr {p j : Int} {kk : IntKind} (n : Nat) (hj : j = (n : Int)) (hn : n ≤ 64) : IBin .shr .u64 p kk j (.int .u64 (p / 2 ^ n)) := .of fun P t w => by
  show (Op.shift .shr .u64 p kk j).run P w = _
  have e : (Op.shift .shr .u64 p kk j) = pure (.int .u64 (p.fdiv (2 ^ n))) := by
    unfold Op.shift; rw [if_neg (by omega)]
    have : min j.toNat IntKind.u64.bits = n := by show min j.toNat 64 = n; omega
    simp only [this]
  rw [e, Int.fdiv_eq_ediv_of_nonneg _ (Int.le_of_lt (Int.pow_pos (by decide)))]; rfl
theorem ior_add {p q : Int} (n : Nat) (m : Nat) (hp0 : 0 ≤ p) (hp : p < 2 ^ n) (hq : q = (m : Int) * 2 ^ n) (hs : p + q ≤ 9223372036854775807) : IBin .or .i64 p .i64 q (.int .i64 (p + q)) := .of fun P t w => by
  have hq0 : 0 ≤ q := by rw [hq]; exact Int.mul_nonneg (by omega) (Int.le_of_lt (Int.pow_pos (by decide)))
  show (Op.intBits .or .i64 p q).run P w = _
  have e1 : (BitVec.ofInt 64 p ||| BitVec.ofInt 64 q).toNat = (p + q).toNat := by
    rw [BitVec.toNat_or, BitVec.toNat_ofInt, BitVec.toNat_ofInt]
    have a1 : (p % ((2 ^ 64 : Nat) : Int)).toNat = p.toNat := by omega
    have a2 : (q % ((2 ^ 64 : Nat) : Int)).toNat = q.toNat := by omega
    rw [a1, a2]
    have hqn : q.toNat = 2 ^ n * m := by
      rw [hq, show (2 : Int) ^ n = ((2 ^ n : Nat) : Int) by rw [Int.natCast_pow]; rfl, ← Int.natCast_mul, Int.toNat_natCast, Nat.mul_comm]
    have hpn : p.toNat < 2 ^ n := by
      have : (p.toNat : Int) < ((2 ^ n : Nat) : Int) := by rw [show ((2 ^ n : Nat) : Int) = (2 : Int) ^ n by rw [Int.natCast_pow]; rfl]; omega
      omega
    rw [hqn, Nat.or_comm, ← Nat.two_pow_add_eq_or_of_lt hpn]; omega
  have h2 : ((p + q).toNat : Int) = p + q := by omega
  show (pure (Value.int .i64 (IntKind.i64.wrap ((BitVec.ofInt 64 p ||| BitVec.ofInt 64 q).toNat : Int))) : Sem Value).run P w = _; rw [e1, h2, Z2 (n := p + q) (by omega) (by omega)]; rfl
def bl (n : Nat) : Nat := if n = 0 then 0 else Nat.log2 n + 1
def tabOk (s : ByteArray) : Bool := (List.range 256).all fun n => s[n]? == some (UInt8.ofNat (bl n))
theorem bl_lt {n : Nat} (h : n < 256) : bl n < 9 := by
  unfold bl; split
  · decide
  · rename_i h0
    have : Nat.log2 n < 8 := (Nat.log2_lt h0).2 (by omega); omega
theorem bl_spec (n : Nat) : n < 2 ^ bl n := by
  unfold bl; split
  · rename_i h; subst h; decide
  · exact Nat.lt_log2_self
theorem tab_at {s : ByteArray} (hs : tabOk s = true) {n : Nat} (h : n < 256) : s[n]? = some (UInt8.ofNat (bl n)) := by
  unfold tabOk at hs; rw [List.all_eq_true] at hs; exact eq_of_beq (hs n (List.mem_range.2 h))
theorem Ops.idxTab {s : ByteArray} {kk : IntKind} {j : Int} (m : Nat) (hg : gd ops L g = some true) (hx : ev L x = some (.ct (.ex (.string s)))) (hy : ev L y = some (.ct (.ex (.int kk j)))) (hu : X.P.underlying t = some .string) (hj : j = (m : Int)) (hm : m < 256) (hs : tabOk s = true) (hn : Nat.blt d X.n = true)
    (h : Ops X ops r ((d, .ct (.ex (.int .u8 (bl m)))) :: L) B K) : Ops X ops (.cons ⟨some d, .index t x y, t', pos, af, g⟩ k r) L B K := by
  refine Ops.idxS (b := UInt8.ofNat (bl m)) hg hx hy hu (by omega) (by subst hj; exact tab_at hs hm) hn ?_
  have : ((UInt8.ofNat (bl m)).toNat : Int) = (bl m : Int) := by
    have := bl_lt hm; rw [UInt8.toNat_ofNat']; omega
  rw [this]; exact h
end Go.Own
namespace Go.Limbs
def gs (h n t l s : Int) : Int := min 1073741823 ((h * 1073741824 * 1073741824 + n * 1073741824 + t) / (l * 1073741824 + s))
theorem gs_step {h n t l s q r : Int} (hl : 0 < l) (hs : 0 ≤ s) (hv : q * l + r = h * 1073741824 + n) (hg : gs h n t l s ≤ q)
    (hc : 1073741824 ≤ q ∨ r * 1073741824 + t < q * s) : gs h n t l s ≤ q - 1 := by
  unfold gs at *; rcases hc with hc | hc
  · omega
  · have hV : 0 < l * 1073741824 + s := by omega
    have e : q * (l * 1073741824 + s) = (q * l) * 1073741824 + q * s := by grind
    have : (h * 1073741824 * 1073741824 + n * 1073741824 + t) / (l * 1073741824 + s) < q := by
      apply Int.ediv_lt_of_lt_mul hV
      rw [e]
      have : q * l = h * 1073741824 + n - r := by omega
      rw [this]; omega
    omega
theorem gs_exit {h n t l s q r : Int} (hl : 0 < l) (hh : h ≤ l) (hn : n < 1073741824) (ht : 0 ≤ t) (hs : 0 ≤ s) (hs2 : s < 1073741824) (hq : 0 ≤ q) (hv : q * l + r = h * 1073741824 + n) (hg : gs h n t l s ≤ q)
    (hc : ¬ (r < 1073741824 ∧ (1073741824 ≤ q ∨ r * 1073741824 + t < q * s))) : q = gs h n t l s := by
  have hV : 0 < l * 1073741824 + s := by omega
  have e : q * (l * 1073741824 + s) = (q * l) * 1073741824 + q * s := by grind
  have e2 : q * l = h * 1073741824 + n - r := by omega
  have key : q ≤ 1073741823 ∧ q * (l * 1073741824 + s) ≤ h * 1073741824 * 1073741824 + n * 1073741824 + t := by
    by_cases hr : r < 1073741824
    · have : ¬ 1073741824 ≤ q ∧ ¬ r * 1073741824 + t < q * s := ⟨fun h => hc ⟨hr, .inl h⟩, fun h => hc ⟨hr, .inr h⟩⟩; refine ⟨by omega, ?_⟩; rw [e, e2]; omega
    · have hq2 : q ≤ 1073741823 := by
        by_cases h1 : q < 1073741824
        · omega
        · have : 1073741824 * l ≤ q * l := Int.mul_le_mul_of_nonneg_right (by omega) (by omega); omega
      refine ⟨hq2, ?_⟩; have : q * s ≤ 1073741823 * 1073741823 := Int.mul_le_mul hq2 (by omega) hs (by omega); rw [e, e2]; omega
  have : q ≤ (h * 1073741824 * 1073741824 + n * 1073741824 + t) / (l * 1073741824 + s) := (Int.le_ediv_iff_mul_le hV).2 key.2; unfold gs at *; omega
theorem gs_good {P h n t l s a b : Int} (hP : 0 < P) (ha : 0 ≤ a ∧ a < P) (hb : 0 ≤ b ∧ b < P) (hl : 0 < l) (hs : 0 ≤ s) (hh : 0 ≤ h) (hn : 0 ≤ n) (ht : 0 ≤ t)
    (hU : (h * 1073741824 * 1073741824 + n * 1073741824 + t) * P + a < ((l * 1073741824 + s) * P + b) * 1073741824) :
    0 ≤ gs h n t l s ∧ gs h n t l s ≤ 1073741823 ∧ (gs h n t l s - 1) * ((l * 1073741824 + s) * P + b) ≤ (h * 1073741824 * 1073741824 + n * 1073741824 + t) * P + a ∧
      (h * 1073741824 * 1073741824 + n * 1073741824 + t) * P + a < (gs h n t l s + 1) * ((l * 1073741824 + s) * P + b) := by
  have hV : 0 < l * 1073741824 + s := by omega
  have hV1 : 1073741824 ≤ l * 1073741824 + s := by omega
  have hU0 : 0 ≤ h * 1073741824 * 1073741824 + n * 1073741824 + t := by omega
  unfold gs; generalize h * 1073741824 * 1073741824 + n * 1073741824 + t = U3 at *; generalize l * 1073741824 + s = V2 at *; have d0 : 0 ≤ U3 / V2 := Int.ediv_nonneg hU0 (by omega); have d1 : U3 / V2 * V2 ≤ U3 := Int.ediv_mul_le _ (by omega); have d2 : U3 < (U3 / V2 + 1) * V2 := Int.lt_ediv_add_one_mul_self _ hV; generalize U3 / V2 = D at *; have hVP : 0 ≤ V2 * P := Int.mul_nonneg (by omega) (by omega); refine ⟨by omega, by omega, ?_, ?_⟩
  · have hg : min 1073741823 D ≤ D := by omega
    have hg0 : 0 ≤ min 1073741823 D := by omega
    have hg1 : min 1073741823 D ≤ 1073741823 := by omega
    generalize min 1073741823 D = G at *; have f1 : G * V2 ≤ D * V2 := Int.mul_le_mul_of_nonneg_right hg (by omega); have f2 : (G * V2) * P ≤ U3 * P := Int.mul_le_mul_of_nonneg_right (by omega) (by omega); have f3 : G * b ≤ G * P := Int.mul_le_mul_of_nonneg_left (by omega) hg0; have f4 : G * P ≤ V2 * P := Int.mul_le_mul_of_nonneg_right (by omega) (by omega)
    have f5 : (G - 1) * (V2 * P + b) = (G * V2) * P + G * b - V2 * P - b := by grind
    rw [f5]; omega
  · by_cases hD : D < 1073741823
    · have : min 1073741823 D = D := by omega
      rw [this]; have f1 : (U3 + 1) * P ≤ ((D + 1) * V2) * P := Int.mul_le_mul_of_nonneg_right (by omega) (by omega)
      have f2 : (D + 1) * (V2 * P + b) = ((D + 1) * V2) * P + (D + 1) * b := by grind
      have f3 : 0 ≤ (D + 1) * b := Int.mul_nonneg (by omega) hb.1; rw [f2]
      have f4 : (U3 + 1) * P = U3 * P + P := by grind
      omega
    · have : min 1073741823 D = 1073741823 := by omega
      rw [this]; omega
theorem pre_drop (xs : List Int) (j i : Nat) : pre xs (j + i) = pre xs j + BB ^ j * pre (xs.drop j) i := by
  induction i with
  | zero => rw [Z0]; simp
  | succ i ih =>
    rw [show j + (i + 1) = (j + i) + 1 by omega, X4, ih, X4]
    have : (xs.drop j).getD i 0 = xs.getD (j + i) 0 := by simp [List.getD_eq_getElem?_getD, List.getElem?_drop]
    rw [this, Int.pow_add]; grind
theorem getD_ge {xs : List Int} {i : Nat} (h : xs.length ≤ i) : xs.getD i 0 = 0 := by rw [List.getD_eq_getElem?_getD, List.getElem?_eq_none h]; rfl
theorem zero_above {xs : List Int} (h : OKL xs) {k : Nat} (hv : val xs < BB ^ k) (j : Nat) (hj : k ≤ j) : xs.getD j 0 = 0 := by
  rcases Nat.lt_or_ge j xs.length with hl | hl
  · have h1 : val xs = pre xs xs.length := (ZY (Nat.le_refl _)).symm; obtain ⟨d, hd⟩ : ∃ d, xs.length = (j + 1) + d := ⟨xs.length - (j + 1), by omega⟩; rw [hd, pre_drop, X4] at h1; have b1 := YJ h j; have b2 := YJ (h.drop (j + 1)) d; have b3 := h.get j; have p1 : 0 ≤ BB ^ (j + 1) * pre (xs.drop (j + 1)) d := Int.mul_nonneg (Int.le_of_lt (Int.pow_pos (by decide))) b2.1
    have p2 : BB ^ k ≤ BB ^ j := by
      obtain ⟨m, rfl⟩ : ∃ m, j = k + m := ⟨j - k, by omega⟩; rw [Int.pow_add]; have q1 : (1 : Int) ≤ BB ^ m := Int.pow_pos (by decide); have q2 : (0 : Int) ≤ BB ^ k := Int.le_of_lt (Int.pow_pos (by decide)); have := Int.mul_le_mul_of_nonneg_left q1 q2; omega
    by_cases h0 : 0 < xs.getD j 0
    · have p3 : 1 * BB ^ j ≤ xs.getD j 0 * BB ^ j := Int.mul_le_mul_of_nonneg_right h0 (Int.le_of_lt (Int.pow_pos (by decide))); omega
    · omega
  · exact getD_ge hl
theorem val_pre_of {xs : List Int} (h : OKL xs) {k : Nat} (hv : val xs < BB ^ k) : val xs = pre xs k := val_of_zeros (fun j hj => zero_above h hv j hj)
def shrL (by' : Nat) : List Int → List Int
  | [] => []
  | x :: xs => ((xs.getD 0 0 * 1073741824 + x) / 2 ^ by') % 1073741824 :: shrL by' xs
theorem shrL_len (k : Nat) (xs : List Int) : (shrL k xs).length = xs.length := by
  induction xs with
  | nil => rfl
  | cons x xs ih => simp [shrL, ih]
theorem shrL_get (k : Nat) (xs : List Int) (i : Nat) (h : i < xs.length) : (shrL k xs).getD i 0 = ((xs.getD (i + 1) 0 * 1073741824 + xs.getD i 0) / 2 ^ k) % 1073741824 := by
  induction xs generalizing i with
  | nil => simp at h
  | cons x xs ih =>
    cases i with
    | zero => simp [shrL]
    | succ i => simp only [shrL, List.getD_cons_succ]; exact ih i (by simpa using h)
theorem shrL_ok (k : Nat) (xs : List Int) : OKL (shrL k xs) := by
  induction xs with
  | nil => exact OKL.nil
  | cons x xs ih => exact OKL.cons (by simp only [BB]; omega) ih
theorem two_split {k : Nat} (hk : k ≤ 30) : (1073741824 : Int) = 2 ^ k * 2 ^ (30 - k) := by
  rw [← Int.pow_add, show k + (30 - k) = 30 by omega]; rfl
theorem ediv_mod_B {k : Nat} (hk : k ≤ 30) (x y z : Int) : ((x + 1073741824 * (y + 1073741824 * z)) / 2 ^ k) % 1073741824 = ((y * 1073741824 + x) / 2 ^ k) % 1073741824 := by
  have e := two_split hk
  have hp : (2 : Int) ^ k ≠ 0 := by have : (0 : Int) < 2 ^ k := Int.pow_pos (by decide); omega
  have : x + 1073741824 * (y + 1073741824 * z) = (y * 1073741824 + x) + (2 ^ (30 - k) * z * 1073741824) * 2 ^ k := by
    have : (1073741824 : Int) * (1073741824 * z) = (2 ^ (30 - k) * z * 1073741824) * 2 ^ k := by
      conv => lhs; rw [e]
      grind
    grind
  rw [this, Int.add_mul_ediv_right _ _ hp, Int.add_mul_emod_self_right]
theorem val_shrL {k : Nat} (hk : k ≤ 30) : ∀ (xs : List Int), OKL xs → val (shrL k xs) = val xs / 2 ^ k
  | [], _ => by simp [shrL, val]
  | x :: xs, h => by
    have ih := val_shrL hk xs h.tail
    have hx := h.head
    have hp : (0 : Int) < 2 ^ k := Int.pow_pos (by decide)
    have h1 : val xs = xs.getD 0 0 + 1073741824 * val xs.tail := by
      cases xs with
      | nil => simp [val]
      | cons y ys => simp [val, BB]
    simp only [shrL, val, ih, BB] at *; have e1 := ediv_mod_B hk x (xs.getD 0 0) (val xs.tail); rw [← h1] at e1; rw [← e1]
    have e2 : val xs / 2 ^ k = (x + 1073741824 * val xs) / 2 ^ k / 1073741824 := by
      rw [Int.ediv_ediv_of_nonneg (by omega), Int.mul_comm (2 ^ k) 1073741824, ← Int.ediv_ediv_of_nonneg (by omega), Int.mul_comm 1073741824, Int.add_mul_ediv_right _ _ (by decide), Int.ediv_eq_zero_of_lt hx.1 hx.2, Int.zero_add]
    rw [e2]; have := Int.emod_add_mul_ediv ((x + 1073741824 * val xs) / 2 ^ k) 1073741824; omega
end Go.Limbs
namespace Go.Proofs.YtlkdkbdgnjcopaaGreat
open Go.Own Go.Limbs
attribute [local irreducible] St Ops Go.Own.Fin Ok
abbrev u64C (x : Int) : CT := .ex (.int .u64 x)
theorem uStr : Tryz.prog.underlying 9 = some .string := Tryz.underlying9
theorem uIntB : Tryz.prog.underlying 3 = some (.int .i64) := Tryz.underlying3
theorem uU8B : Tryz.prog.underlying 5 = some (.int .u8) := Tryz.underlying5
theorem uUintB : Tryz.prog.underlying 172 = some (.int .u64) := Tryz.underlying172
theorem uU64B : Tryz.prog.underlying 153 = some (.int .u64) := Tryz.underlying153
theorem wrap_u8 {n : Int} (h1 : 0 ≤ n) (h2 : n < 256) : IntKind.u8.wrap n = n := by
  rw [show IntKind.u8.wrap n = n % 256 by simp [IntKind.wrap, IntKind.bits, IntKind.signed]]; omega
def bln (n : Nat) : Nat := if 65536 ≤ n then (if 256 ≤ n / 65536 then 24 + bl (n / 65536 / 256) else 16 + bl (n / 65536)) else if 256 ≤ n then 8 + bl (n / 256) else bl n
theorem bln_spec {n : Nat} (h0 : 0 < n) (h : n < 1073741824) : 1 ≤ bln n ∧ bln n ≤ 30 ∧ n < 2 ^ bln n := by
  have pos : ∀ m, 0 < m → 1 ≤ bl m := fun m hm => by unfold bl; rw [if_neg (by omega)]; omega
  unfold bln; split
  · split
    · have h1 := bl_spec (n / 65536 / 256); have h2 := pos (n / 65536 / 256) (by omega)
      have h3 : bl (n / 65536 / 256) ≤ 6 := by
        unfold bl; rw [if_neg (by omega)]; have : Nat.log2 (n / 65536 / 256) < 6 := (Nat.log2_lt (by omega)).2 (by omega); omega
      refine ⟨by omega, by omega, ?_⟩; rw [Nat.pow_add]
      have : n < (n / 65536 / 256 + 1) * 16777216 := by omega
      exact Nat.lt_of_lt_of_le this (by rw [Nat.mul_comm]; exact Nat.mul_le_mul (by decide) h1)
    · have h1 := bl_spec (n / 65536); have h2 := pos (n / 65536) (by omega); have h3 := bl_lt (n := n / 65536) (by omega); refine ⟨by omega, by omega, ?_⟩; rw [Nat.pow_add]
      have : n < (n / 65536 + 1) * 65536 := by omega
      exact Nat.lt_of_lt_of_le this (by rw [Nat.mul_comm]; exact Nat.mul_le_mul (by decide) h1)
  · split
    · have h1 := bl_spec (n / 256); have h2 := pos (n / 256) (by omega); have h3 := bl_lt (n := n / 256) (by omega); refine ⟨by omega, by omega, ?_⟩; rw [Nat.pow_add]
      have : n < (n / 256 + 1) * 256 := by omega
      exact Nat.lt_of_lt_of_le this (by rw [Nat.mul_comm]; exact Nat.mul_le_mul (by decide) h1)
    · have h1 := bl_spec n; have h3 := bl_lt (n := n) (by omega); exact ⟨pos n h0, by omega, h1⟩
theorem goLen64 : InGo Tryz.prog 156 := InGo.of Tryz.func156 rfl (by decide)
set_option maxHeartbeats 2000000 in
theorem Len64_ok (n : Nat) (h1 : n < 1073741824) : Ok Tryz.prog 156 [u64C n] (intC (bln n)) := by
  refine Ok.enter Tryz.func156 J _ Tryz.ntmps156 J ?_
  intro S w; refine Qw (Qx fun K hK => ?_); refine Qv J J J (Qj (hK _ _ (Qz (Qw (Qw ?_))))); clear hK K; refine Qx (fun K hK => ?_); refine Qq J J J (Qk igeq J J J J (Qj (hK _ _ (Qz ?_)))); clear hK K; refine Q2 J (fun h => by exfalso; omega) (fun _ => ?_); refine Q1 (Qz (Qw (Qw (Qx fun K hK => ?_)))); refine Qq J J J (Qk igeq J J J J (Qj (hK _ _ (Qz ?_)))); clear hK K; refine Q2 J (fun ha => ?_) (fun ha => ?_)
  · refine Qw (Qx fun K hK => ?_); refine Qq J J J (Qk (ushr 16 J (by decide)) J J J J ?_); rw [show (n : Int) / 2 ^ 16 = ((n / 65536 : Nat) : Int) by omega]; refine Qv J J J (Qj (hK _ _ (Qz ?_))); clear hK K; refine Qx (fun K hK => ?_); refine Qq J J J (Qk (iadd (by omega) (by omega)) J J J J ?_); refine Qv J J J (Qj (hK _ _ (Qz (Qw (Qw ?_))))); clear hK K; refine Qx (fun K hK => ?_); refine Qq J J J (Qk igeq J J J J (Qj (hK _ _ (Qz ?_)))); clear hK K; refine Q2 J (fun hb => ?_) (fun hb => ?_)
    · refine Qw (Qx fun K hK => ?_); refine Qq J J J (Qk (ushr 8 J (by decide)) J J J J ?_); rw [show ((n / 65536 : Nat) : Int) / 2 ^ 8 = ((n / 65536 / 256 : Nat) : Int) by omega]; refine Qv J J J (Qj (hK _ _ (Qz ?_))); clear hK K; refine Qx (fun K hK => ?_); refine Qq J J J (Qk (iadd (by omega) (by omega)) J J J J ?_); refine Qv J J J (Qj (hK _ _ (Qz (Qw ?_)))); clear hK K; refine Qx (fun K hK => ?_); refine Qq J J J (Qq J J J ?_); have hb3 := bl_lt (n := n / 65536 / 256) (by omega)
      refine Xe (q := ((n / 65536 / 256 : Nat) : Int)) J J uU64B uU8B (wrap_u8 (by omega) (by omega)) J ?_
      refine Ops.idxTab (n / 65536 / 256) J J J uStr J (by omega) (by kernel_rfl) J ?_
      refine Xe (q := (bl (n / 65536 / 256) : Int)) J J uU8B uIntB (Z2 (by omega) (by omega)) J ?_
      refine Qk (iadd (by omega) (by omega)) J J J J ?_
      refine Qv J J J (Qj (hK _ _ (Qz (Q0 ?_)))); clear hK K; refine QU [_] rfl (Qu J QQ) (by unfold bln; rw [if_pos (by omega), if_pos (by omega)]; congr 2) J
    · refine Q1 (Qz (Qw (Qx fun K hK => ?_))); refine Qq J J J (Qq J J J ?_); have hb3 := bl_lt (n := n / 65536) (by omega)
      refine Xe (q := ((n / 65536 : Nat) : Int)) J J uU64B uU8B (wrap_u8 (by omega) (by omega)) J ?_
      refine Ops.idxTab (n / 65536) J J J uStr J (by omega) (by kernel_rfl) J ?_
      refine Xe (q := (bl (n / 65536) : Int)) J J uU8B uIntB (Z2 (by omega) (by omega)) J ?_
      refine Qk (iadd (by omega) (by omega)) J J J J ?_
      refine Qv J J J (Qj (hK _ _ (Qz (Q0 ?_)))); clear hK K; refine QU [_] rfl (Qu J QQ) (by unfold bln; rw [if_pos (by omega), if_neg (by omega)]; congr 2) J
  · refine Q1 (Qz (Qw (Qw (Qx fun K hK => ?_)))); refine Qq J J J (Qk igeq J J J J (Qj (hK _ _ (Qz ?_)))); clear hK K; refine Q2 J (fun hb => ?_) (fun hb => ?_)
    · refine Qw (Qx fun K hK => ?_); refine Qq J J J (Qk (ushr 8 J (by decide)) J J J J ?_); rw [show (n : Int) / 2 ^ 8 = ((n / 256 : Nat) : Int) by omega]; refine Qv J J J (Qj (hK _ _ (Qz ?_))); clear hK K; refine Qx (fun K hK => ?_); refine Qq J J J (Qk (iadd (by omega) (by omega)) J J J J ?_); refine Qv J J J (Qj (hK _ _ (Qz (Qw ?_)))); clear hK K; refine Qx (fun K hK => ?_); refine Qq J J J (Qq J J J ?_); have hb3 := bl_lt (n := n / 256) (by omega)
      refine Xe (q := ((n / 256 : Nat) : Int)) J J uU64B uU8B (wrap_u8 (by omega) (by omega)) J ?_
      refine Ops.idxTab (n / 256) J J J uStr J (by omega) (by kernel_rfl) J ?_
      refine Xe (q := (bl (n / 256) : Int)) J J uU8B uIntB (Z2 (by omega) (by omega)) J ?_
      refine Qk (iadd (by omega) (by omega)) J J J J ?_
      refine Qv J J J (Qj (hK _ _ (Qz (Q0 ?_)))); clear hK K; refine QU [_] rfl (Qu J QQ) (by unfold bln; rw [if_neg (by omega), if_pos (by omega)]; congr 2) J
    · refine Q1 (Qz (Qw (Qx fun K hK => ?_))); refine Qq J J J (Qq J J J ?_); have hb3 := bl_lt (n := n) (by omega)
      refine Xe (q := (n : Int)) J J uU64B uU8B (wrap_u8 (by omega) (by omega)) J ?_
      refine Ops.idxTab n J J J uStr J (by omega) (by kernel_rfl) J ?_
      refine Xe (q := (bl n : Int)) J J uU8B uIntB (Z2 (by omega) (by omega)) J ?_
      refine Qk (iadd (by omega) (by omega)) J J J J ?_
      refine Qv J J J (Qj (hK _ _ (Qz (Q0 ?_)))); clear hK K; refine QU [_] rfl (Qu J QQ) (by unfold bln; rw [if_neg (by omega), if_neg (by omega)]; exact congrArg intC (by omega)) J
theorem goLen : InGo Tryz.prog 118 := InGo.of Tryz.func118 rfl (by decide)
theorem Len_ok (n : Nat) (h1 : n < 1073741824) : Ok Tryz.prog 118 [u64C n] (intC (bln n)) := by
  refine Ok.enter Tryz.func118 J _ Tryz.ntmps118 J ?_
  intro S w; refine Qw (Qx fun K hK => ?_); refine Qv J J J (Qj (hK _ _ (Qz (Qw (Xv J (Q1 (Qz (Qw ?_)))))))); clear hK K; refine Qx (fun K hK => ?_); refine Qq J J J (QW goLen64 (Len64_ok n h1) J J J J (Qv J J J (Qj (hK _ _ (Qz (Q0 ?_)))))); clear hK K; refine QU [_] rfl (Qu J QQ) J J
theorem goguess : InGo Tryz.prog 177 := InGo.of Tryz.func177 (by kernel_rfl) (by kernel_rfl)
set_option maxHeartbeats 4000000 in
theorem guess_ok (h n t l s : Int) (hh0 : 0 ≤ h) (hh : h ≤ l) (hl0 : 0 < l) (hl : l < 1073741824) (hn0 : 0 ≤ n) (hn : n < 1073741824) (ht0 : 0 ≤ t) (ht : t < 1073741824) (hs0 : 0 ≤ s) (hs : s < 1073741824) :
    Ok Tryz.prog 177 [intC h, intC n, intC t, intC l, intC s] (intC (gs h n t l s)) := by
  refine Ok.enter Tryz.func177 J _ Tryz.ntmps177 J ?_
  intro S w; refine Qw (Qx fun K hK => ?_); refine Qv J J J (Qj (hK _ _ (Qz (Qw ?_)))); clear hK K; refine Qx (fun K hK => ?_); refine Qq J J J (Qk (ishl30 (by omega) (by omega)) J J J J ?_); refine Qq J J J (Qk (ior30 (by omega) (by omega) (by omega) (by omega)) J J J J ?_); refine Qv J J J (Qj (hK _ _ (Qz (Qw ?_)))); clear hK K; refine Xw mixed 8 (.p 0 (.p 1 (.p 2 (.p 3 (.p 4 (.p 5 (.p 6 (.p 7 .done)))))))) (by kernel_rfl) (fun K hK => ?_); refine Qq J J J (Qq J J J (Qk (iquo (by omega) (by omega) (by omega)) J J J J ?_)); refine Qq J J J (Qq J J J (Qk (irem (by omega) (by omega)) J J J J ?_)); refine Qv J J J (Qv J J J (Qj (hK _ _ (Qz (Qw (Q5 ?_)))))); clear hK K; have e0 := Int.mul_ediv_add_emod (h * 1073741824 + n) l; have e1 := Int.emod_nonneg (h * 1073741824 + n) (b := l) (by omega); have e2 := Int.emod_lt_of_pos (h * 1073741824 + n) hl0; have e3 : 0 ≤ (h * 1073741824 + n) / l := Int.ediv_nonneg (by omega) (by omega)
  have e4 : (h * 1073741824 + n) / l ≤ 2147483648 := by
    have : (h * 1073741824 + n) / l < 2147483649 := by
      apply Int.ediv_lt_of_lt_mul hl0
      have : h * 1073741824 ≤ l * 1073741824 := Int.mul_le_mul_of_nonneg_right hh (by decide); omega
    omega
  have e5 : gs h n t l s ≤ (h * 1073741824 + n) / l := by
    unfold gs
    have : (h * 1073741824 * 1073741824 + n * 1073741824 + t) / (l * 1073741824 + s) < (h * 1073741824 + n) / l + 1 := by
      apply Int.ediv_lt_of_lt_mul (by omega)
      generalize (h * 1073741824 + n) / l = q at *
      have f1 : (q + 1) * (l * 1073741824 + s) = (l * q) * 1073741824 + l * 1073741824 + (q + 1) * s := by grind
      have f2 : 0 ≤ (q + 1) * s := Int.mul_nonneg (by omega) hs0; rw [f1]; omega
    omega
  generalize (h * 1073741824 + n) / l = q0 at *; generalize (h * 1073741824 + n) % l = r0 at *
  refine Xx (α := Int × Int) (fun p => 0 ≤ p.1 ∧ p.1 ≤ 2147483648 ∧ 0 ≤ p.2 ∧ p.2 < 2147483648 ∧ p.1 * l + p.2 = h * 1073741824 + n ∧ gs h n t l s ≤ p.1)
    (fun p => [(2, .ct (intC t)), (3, .ct (intC l)), (4, .ct (intC s)), (12, .ct (intC p.1)), (13, .ct (intC p.2))]) (fun _ => []) (fun p => (1073741824 - p.2).toNat) (q0, r0)
    ⟨e3, e4, e1, by dsimp only; omega, by rw [Int.mul_comm]; exact e0, e5⟩ (by exact QX J ⟨rfl, rfl, rfl, rfl, rfl, trivial⟩) ?_
  rintro ⟨q, r⟩ ⟨hq0, hq1, hr0, hr1, hv, hg⟩
  dsimp only at hq0 hq1 hr0 hr1 hv hg ⊢
  have hqs : 0 ≤ q * s ∧ q * s ≤ 2305843009213693952 := ⟨Int.mul_nonneg hq0 hs0, by
    have : q * s ≤ 2147483648 * 1073741824 := Int.mul_le_mul hq1 (by omega) hs0 (by decide)
    omega⟩
  have stop : ¬ (r < 1073741824 ∧ (1073741824 ≤ q ∨ r * 1073741824 + t < q * s)) → q = gs h n t l s := fun hc => gs_exit hl0 hh hn ht0 hs0 hs hq0 hv hg hc
  have go : r < 1073741824 → (1073741824 ≤ q ∨ r * 1073741824 + t < q * s) → gs h n t l s ≤ q - 1 := fun _ hc => gs_step hl0 hs0 hv hg hc
  have hv' : (q - 1) * l + (r + l) = h * 1073741824 + n := by rw [Int.sub_mul]; omega
  have gs0 : 0 ≤ gs h n t l s := by
    unfold gs; have : 0 ≤ (h * 1073741824 * 1073741824 + n * 1073741824 + t) / (l * 1073741824 + s) := Int.ediv_nonneg (by omega) (by omega); omega
  refine Qw (Qw (Qx fun K hK => ?_)); refine Qq J J J (Qk ilss J J J J (Qq J J J (Q7 26 J (fun h1 => ?_) (fun h1 => ?_))))
  · refine Qq J J J (Qk igeq J J J J (Qq J J J (Q7 29 J (fun h2 => ?_) (fun h2 => ?_))))
    · refine Qy J J J (Qy J J J (Qy J J J (Qy J J J (Qy J J J (Qy J J J (Qy J J J (Qy J J J (QJ J J J J (QJ J J J J (Qj (hK _ _ (Qz (Qp J (Q1 (Qz (Q5 ?_)))))))))))))))); clear hK K; refine Qx (fun K hK => ?_); refine Qq J J J (Qk (isub (by omega) (by omega)) J J J J ?_); refine Qq J J J (Qq J J J (Qk (iadd (by omega) (by omega)) J J J J ?_)); refine Qv J J J (Qv J J J (Qj (hK _ _ (Qd (Q4 ?_))))); clear hK K; have hg' := go h1 (.inl h2); refine Q8 (q - 1, r + l) (by dsimp only; omega) ⟨by dsimp only; omega, by dsimp only; omega, by dsimp only; omega, by dsimp only; omega, hv', hg'⟩ (by exact QX J ⟨rfl, rfl, rfl, rfl, rfl, trivial⟩)
    · refine Qq J J J (Qq J J J (Qk (imul (by omega) (by omega)) J J J J ?_)); refine Qq J J J (Qk (ishl30 (by omega) (by omega)) J J J J ?_); refine Qq J J J (Qk (ior30 (by omega) (by omega) (by omega) (by omega)) J J J J ?_); refine Qk igtr J J J J (QK J J J J (QJ J J J J (Qj (hK _ _ (Qz ?_))))); clear hK K; refine Q2 J (fun h3 => ?_) (fun h3 => ?_)
      · refine Q1 (Qz (Q5 (Qx fun K hK => ?_))); refine Qq J J J (Qk (isub (by omega) (by omega)) J J J J ?_); refine Qq J J J (Qq J J J (Qk (iadd (by omega) (by omega)) J J J J ?_)); refine Qv J J J (Qv J J J (Qj (hK _ _ (Qd (Q4 ?_))))); clear hK K; have hg' := go h1 (.inr h3); refine Q8 (q - 1, r + l) (by dsimp only; omega) ⟨by dsimp only; omega, by dsimp only; omega, by dsimp only; omega, by dsimp only; omega, hv', hg'⟩ (by exact QX J ⟨rfl, rfl, rfl, rfl, rfl, trivial⟩)
      · have e := stop (fun hc => by rcases hc.2 with hc | hc <;> omega); refine Qs (Qz (Qw (Qx fun K hK => ?_))); refine Qq J J J (Qv J J J (Qj (hK _ _ (Qz (Q0 ?_))))); clear hK K; refine QU [_] rfl (Qu J QQ) (by rw [e]; rfl) J
  · have e := stop (fun hc => h1 hc.1); refine Qy J J J (Qy J J J (Qy J J J (Qy J J J (Qy J J J (Qy J J J (Qy J J J (Qy J J J (Qy J J J (Qy J J J (Qy J J J (Qy J J J (QK J J J J (Qj (hK _ _ (Qz (Xv J (Qs (Qz (Qw ?_))))))))))))))))))); clear hK K; refine Qx (fun K hK => ?_); refine Qq J J J (Qv J J J (Qj (hK _ _ (Qz (Q0 ?_))))); clear hK K; refine QU [_] rfl (Qu J QQ) (by rw [e]; rfl) J
attribute [local irreducible] OkF
theorem goshifted : InGo Tryz.prog 176 := InGo.of Tryz.func176 (by kernel_rfl) (by kernel_rfl)
def shl (xs : List Int) (k : Nat) : List Int := (limbs ((val xs).toNat * 2 ^ k)) ++ List.replicate (xs.length + 1 - (limbs ((val xs).toNat * 2 ^ k)).length) 0
theorem limbs_unique {xs ys : List Int} (hx : OKL xs) (hy : OKL ys) (hl : xs.length = ys.length) (hv : val xs = val ys) : xs = ys := by
  induction xs generalizing ys with
  | nil => exact (List.eq_nil_of_length_eq_zero hl.symm).symm
  | cons x xs ih =>
    cases ys with
    | nil => simp at hl
    | cons y ys =>
      have a := hx.head; have b := hy.head; simp only [val, BB] at *
      have e : x = y ∧ val xs = val ys := by omega
      rw [e.1, ih hx.tail hy.tail (by simpa using hl) e.2]
set_option maxHeartbeats 4000000 in
theorem shifted_ok (xs : List Int) (k : Nat) (hk : k ≤ 30) (hok : OKL xs) (hl : xs.length ≤ 256) : OkF Tryz.prog 176 [intsC xs, intC k] 3 1 (ints (shl xs k)) := by
  have hpk : (0 : Int) < 2 ^ k := Int.pow_pos (by decide)
  have hpk30 : (2 : Int) ^ k ≤ 1073741824 := by
    have e := two_split hk; have : (1 : Int) ≤ 2 ^ (30 - k) := Int.pow_pos (by decide); have := Int.mul_le_mul_of_nonneg_left this (Int.le_of_lt hpk); omega
  refine OkF.enter Tryz.func176 J _ Tryz.ntmps176 J ?_
  intro S w; refine Qw (Qx fun K hK => ?_); refine Qv J J J (Qj (hK _ _ (Qz (Qw ?_)))); clear hK K; refine Qx (fun K hK => ?_); refine Qq J J J (Qb J J sNat.und (List.length_map ..) J (Qk (iadd (by omega) (by omega)) J J J J ?_))
  refine Ops.make 0 (xs.length + 1) J J J (by omega) sNat (by omega) (by omega) J J J ?_
  rw [ints_made]; refine Qv J J J (Qj (hK _ _ (Qz (Qw (Qw ?_))))); clear hK K; refine Qx (fun K hK => ?_); refine Qq J J J (Qb J J sNat.und (List.length_map ..) J (Qq J J J (Qj (hK _ _ (Qz (Q5 ?_)))))); clear hK K
  refine Xx (α := Nat × List Int) (fun s => s.1 ≤ xs.length ∧ s.2.length = xs.length + 1 ∧ OKL s.2 ∧ (∀ j, s.1 < j → s.2.getD j 0 = 0) ∧ s.2.getD s.1 0 < 2 ^ k ∧ val s.2 = pre xs s.1 * 2 ^ k)
    (fun s => [(0, .ct (intsC xs)), (1, .ct (intC k)), (5, .own 0), (13, .ct (intsC xs)), (14, .ct (intC xs.length)), (15, .ct (intC s.1))])
    (fun s => [(0, .row 3 1 (ints s.2))]) (fun s => xs.length - s.1) (0, List.replicate (xs.length + 1) 0) ⟨Nat.zero_le _, by simp, OKL.zeros _, ?_, ?_, ?_⟩ (by exact QX J ⟨rfl, rfl, rfl, rfl, rfl, rfl, trivial⟩) ?_
  · intro j _; simp [List.getD_eq_getElem?_getD, List.getElem?_replicate]; split <;> rfl
  · have : (List.replicate (xs.length + 1) (0 : Int)).getD 0 0 = 0 := by simp [List.getD_eq_getElem?_getD]
    dsimp only; rw [this]; exact hpk
  · dsimp only; rw [YU, Z0]; simp
  rintro ⟨i, zs⟩ ⟨hi, hzl, hzok, hz, hzi, hv⟩
  dsimp only at hi hzl hzok hz hzi hv ⊢; refine Qw (Qx fun K hK => ?_); refine Qk ilss J J J J (Qj (hK _ _ (Qz (Qw ?_)))); clear hK K; refine Q2 J (fun h => ?_) (fun h => ?_)
  · have bx := hok.get i; have bz := hzok.get i; simp only [BB] at bx bz; have eix : (i : Int).toNat = i := Int.toNat_natCast i
    have e1 : (i : Int).toNat * 1 = i := by omega
    have e2 : ((i : Int) + 1).toNat * 1 = i + 1 := by omega
    have bs : 0 ≤ xs.getD i 0 * 2 ^ k ∧ xs.getD i 0 * 2 ^ k ≤ 1152921503533105152 := ⟨Int.mul_nonneg bx.1 (by omega), by
      have : xs.getD i 0 * 2 ^ k ≤ 1073741823 * 1073741824 := Int.mul_le_mul (by omega) hpk30 (by omega) (by omega)
      omega⟩
    refine Q1 (Qz (Qw (Q5 (Qw (Qx fun K hK => ?_))))); refine Qq J J J (Qh J J J sNat (by omega) (X9 (by omega) (by omega)) J ?_); refine XQ J J J lInt J (Qv J J J (Qv J J J (Qj (hK _ _ (Qz (Qw ?_)))))); clear hK K; refine Qx (fun K hK => ?_); refine Qq J J J (Qq J J J ?_); rw [eix]; skip
    refine Qk (ishl k J (by omega) (by omega) (by omega)) J J J J ?_
    refine Qv J J J (Qj (hK _ _ (Qz (Qw ?_)))); clear hK K; refine Qx (fun K hK => ?_); refine Qq J J J (Qq J J J (Xu (xs.length + 1) J J J (by simp; omega) J sNat (by omega) (by omega) J ?_)); rw [e1]
    refine QY J J J J (Zd (by omega)) lInt J ?_
    refine Qq J J J ?_
    have dvd : ∃ m : Nat, xs.getD i 0 * 2 ^ k % 1073741824 = (m : Int) * 2 ^ k := by
      have h1 : (xs.getD i 0 % 2 ^ (30 - k)) * 2 ^ k = xs.getD i 0 * 2 ^ k % 1073741824 := by
        rw [two_split hk, Int.mul_comm (xs.getD i 0), Int.mul_emod_mul_of_pos _ _ hpk, Int.mul_comm]
      have h2 : 0 ≤ xs.getD i 0 % 2 ^ (30 - k) := Int.emod_nonneg _ (by have : (0 : Int) < 2 ^ (30 - k) := Int.pow_pos (by decide); omega); exact ⟨(xs.getD i 0 % 2 ^ (30 - k)).toNat, by rw [← h1]; congr 1; omega⟩
    obtain ⟨m, hm⟩ := dvd
    have hmod : zs.getD i 0 + xs.getD i 0 * 2 ^ k % 1073741824 < 1073741824 := by
      rw [hm]; have e := two_split hk
      have hmk : (m : Int) * 2 ^ k < 2 ^ (30 - k) * 2 ^ k := by rw [← hm, Int.mul_comm (2 ^ (30 - k)), ← e]; omega
      have hm2 : (m : Int) < 2 ^ (30 - k) := Int.lt_of_mul_lt_mul_right hmk (by omega); have : ((m : Int) + 1) * 2 ^ k ≤ 2 ^ (30 - k) * 2 ^ k := Int.mul_le_mul_of_nonneg_right (by omega) (by omega); rw [Int.add_mul, Int.one_mul, Int.mul_comm (2 ^ (30 - k)), ← e] at this; omega
    refine Qk iand30 J J J J (Qk (ior_add k m bz.1 hzi hm (by omega)) J J J J ?_); skip
    refine Xu (xs.length + 1) J J J (by simp; omega) J sNat (by omega) (by omega) J ?_
    rw [e1]
    refine XY J J J J J zInt (by simp [Ent.cs]; omega) ?_
    simp only [Ent.setc, Z8]; refine Qj (hK _ _ (Qz ?_)); clear hK K; refine Qx (fun K hK => ?_); refine Qq J J J (Qq J J J (Qk (iadd (by omega) (by omega)) J J J J ?_)); refine Qq J J J (Qk ishr30 J J J J ?_); skip
    refine Xu (xs.length + 1) J J J (by simp; omega) J sNat (by omega) (by omega) J ?_
    rw [e2]
    refine XY J J J J J zInt (by simp [Ent.cs]; omega) ?_
    simp only [Ent.setc, Z8]; refine Qj (hK _ _ (Qz ?_)); clear hK K; refine Qx (fun K hK => ?_)
    refine Qk (iadd (by omega) (by omega)) J J J J ?_
    refine Qq J J J (Qj (hK _ _ (Q4 ?_))); clear hK K
    have hq : xs.getD i 0 * 2 ^ k / 1073741824 < 2 ^ k := by
      apply Int.ediv_lt_of_lt_mul (by decide)
      rw [Int.mul_comm]; exact Int.mul_lt_mul_of_pos_left (by omega) hpk
    refine Q8 (i + 1, (zs.set i (zs.getD i 0 + xs.getD i 0 * 2 ^ k % 1073741824)).set (i + 1) (xs.getD i 0 * 2 ^ k / 1073741824)) (by dsimp only; omega) ⟨by dsimp only; omega, by simp [hzl], ?_, ?_, ?_, ?_⟩ (by exact QX J ⟨rfl, rfl, rfl, rfl, rfl, by simp only [Int.natCast_add]; rfl, trivial⟩)
    all_goals dsimp only
    · exact (hzok.set _ (by simp only [BB]; omega)).set _ (by simp only [BB]; omega)
    · intro j hj; rw [getD_set (by simp; omega), if_neg (by omega), getD_set (by omega), if_neg (by omega)]; exact hz j (by omega)
    · rw [getD_set (by simp; omega), if_pos J]; exact hq
    · rw [val_set (by simp; omega), val_set (by omega), getD_set (by omega), if_neg (by omega), hz (i + 1) (by omega), X4, hv, Int.pow_succ]; have e := Int.mul_ediv_add_emod (xs.getD i 0 * 2 ^ k) 1073741824; simp only [BB] at *; generalize xs.getD i 0 * 2 ^ k / 1073741824 = Q at *; generalize xs.getD i 0 * 2 ^ k % 1073741824 = M at *; generalize (1073741824 : Int) ^ i = I at *
      grind
  · have hi' : i = xs.length := by omega
    have hv2 : val zs = val xs * 2 ^ k := by rw [hv, hi', ZY (Nat.le_refl _)]
    have hvx := Yk hok
    have e2k : ((2 ^ k : Nat) : Int) = (2 : Int) ^ k := by rw [Int.natCast_pow]; rfl
    have hn : ((val xs).toNat * 2 ^ k : Nat) = (val zs).toNat := by
      rw [hv2]
      have : (((val xs).toNat * 2 ^ k : Nat) : Int) = val xs * 2 ^ k := by rw [Int.natCast_mul, e2k, Int.toNat_of_nonneg hvx]
      omega
    have hzs : zs = shl xs k := by
      unfold shl; rw [hn]
      have hlen : (limbs (val zs).toNat).length ≤ xs.length + 1 := by rw [← Zw hzok, ← hzl]; exact trim_len _
      have hvz := Yk hzok
      refine limbs_unique hzok ((X2 _).append (OKL.zeros _)) (by simp; omega) ?_
      rw [YQ, YU, Xn]; omega
    subst hzs; refine Qs (Qz (Qw (Qx fun K hK => ?_))); refine Qq J J J (Qv J J J (Qj (hK _ _ (Qz (Q0 ?_))))); clear hK K; refine Y3 J J J J
theorem shl_val (xs : List Int) (k : Nat) (hok : OKL xs) : val (shl xs k) = val xs * 2 ^ k := by
  unfold shl; rw [YQ, YU, Xn, Int.natCast_mul, Int.toNat_of_nonneg (Yk hok), Int.natCast_pow]; simp
theorem shl_ok (xs : List Int) (k : Nat) : OKL (shl xs k) := (X2 _).append (OKL.zeros _)
theorem shl_len (xs : List Int) (k : Nat) (hk : k ≤ 30) (hok : OKL xs) : (shl xs k).length = xs.length + 1 := by
  unfold shl
  have : (limbs ((val xs).toNat * 2 ^ k)).length ≤ xs.length + 1 := by
    apply XW
    rw [Nat.pow_succ]
    have h1 : val xs < BB ^ xs.length := by have := YJ hok xs.length; rw [ZY (Nat.le_refl _)] at this; exact this.2
    have h2 : (val xs).toNat < 1073741824 ^ xs.length := by
      have := Yk hok
      have e : ((1073741824 ^ xs.length : Nat) : Int) = BB ^ xs.length := by rw [Int.natCast_pow]; rfl
      omega
    have h3 : 2 ^ k ≤ 1073741824 := by
      have : 2 ^ k ≤ 2 ^ 30 := Nat.pow_le_pow_right (by decide) hk; omega
    have h4 : 0 < 2 ^ k := Nat.pow_pos (by decide)
    calc (val xs).toNat * 2 ^ k < 1073741824 ^ xs.length * 2 ^ k := Nat.mul_lt_mul_of_pos_right h2 h4
      _ ≤ _ := Nat.mul_le_mul_left _ h3
  simp; omega
end Go.Proofs.YtlkdkbdgnjcopaaGreat
namespace Go.Limbs
theorem getD_drop (xs : List Int) (j i : Nat) : (xs.drop j).getD i 0 = xs.getD (j + i) 0 := by simp [List.getD_eq_getElem?_getD, List.getElem?_drop]
theorem Bpos (k : Nat) : (0 : Int) < BB ^ k := Int.pow_pos (by decide)
theorem win {us vs : List Int} {n j : Nat} (hu : OKL us) (hv : OKL vs) (hn : 2 ≤ n) (hvl : vs.length = n + 1) (htop : vs.getD n 0 = 0) (hld : 0 < vs.getD (n - 1) 0) (hA : val us < val vs * BB ^ (j + 1)) :
    us.getD (j + n) 0 ≤ vs.getD (n - 1) 0 ∧ 0 ≤ gs (us.getD (j + n) 0) (us.getD (j + n - 1) 0) (us.getD (j + n - 2) 0) (vs.getD (n - 1) 0) (vs.getD (n - 2) 0) ∧
    gs (us.getD (j + n) 0) (us.getD (j + n - 1) 0) (us.getD (j + n - 2) 0) (vs.getD (n - 1) 0) (vs.getD (n - 2) 0) ≤ 1073741823 ∧
    (gs (us.getD (j + n) 0) (us.getD (j + n - 1) 0) (us.getD (j + n - 2) 0) (vs.getD (n - 1) 0) (vs.getD (n - 2) 0) - 1) * val vs * BB ^ j ≤ val us ∧
    val us < (gs (us.getD (j + n) 0) (us.getD (j + n - 1) 0) (us.getD (j + n - 2) 0) (vs.getD (n - 1) 0) (vs.getD (n - 2) 0) + 1) * val vs * BB ^ j ∧
    (∀ p, j + n + 1 ≤ p → us.getD p 0 = 0) ∧ 0 < val vs ∧ val vs < BB ^ n := by
  obtain ⟨m, rfl⟩ : ∃ m, n = m + 2 := ⟨n - 2, by omega⟩
  have e1 : m + 2 - 1 = m + 1 := by omega
  have e2 : m + 2 - 2 = m := by omega
  have e3 : j + (m + 2) - 1 = j + (m + 1) := by omega
  have e4 : j + (m + 2) - 2 = j + m := by omega
  rw [e1] at hld ⊢; rw [e2, e3, e4]; have v1 : val vs = pre vs (m + 3) := (ZY (by omega)).symm
  have v2 : val vs = (vs.getD (m + 1) 0 * 1073741824 + vs.getD m 0) * BB ^ m + pre vs m := by
    rw [v1, show m + 3 = (m + 2) + 1 by omega, X4, htop, show m + 2 = (m + 1) + 1 by omega, X4, X4, Int.pow_succ]; simp only [BB]; grind
  have b1 := YJ hv m; have b2 := hv.get (m + 1); have b3 := hv.get m
  have vlt : val vs < BB ^ (m + 2) := by
    have := YJ hv (m + 2); rw [v1, show m + 3 = (m + 2) + 1 by omega, X4, htop]; omega
  have vpos : 0 < val vs := by
    rw [v2]; have : 0 < (vs.getD (m + 1) 0 * 1073741824 + vs.getD m 0) * BB ^ m := Int.mul_pos (by omega) (Bpos m); omega
  have ult : val us < BB ^ (j + (m + 2) + 1) := by
    have h1 : val vs * BB ^ (j + 1) < BB ^ (m + 2) * BB ^ (j + 1) := Int.mul_lt_mul_of_pos_right vlt (Bpos _); rw [← Int.pow_add, show m + 2 + (j + 1) = j + (m + 2) + 1 by omega] at h1; omega
  have uz := fun p hp => zero_above hu ult p hp
  have u1 : val us = pre us j + BB ^ j * pre (us.drop j) (m + 3) := by
    rw [val_pre_of hu ult, show j + (m + 2) + 1 = j + (m + 3) by omega, pre_drop]
  have u2 : pre (us.drop j) (m + 3) = (us.getD (j + (m + 2)) 0 * 1073741824 * 1073741824 + us.getD (j + (m + 1)) 0 * 1073741824 + us.getD (j + m) 0) * BB ^ m + pre (us.drop j) m := by
    rw [show m + 3 = (m + 2) + 1 by omega, X4, show m + 2 = (m + 1) + 1 by omega, X4, X4, Int.pow_succ, Int.pow_succ, getD_drop, getD_drop, getD_drop]; simp only [BB]; grind
  have c0 := YJ hu j; have c1 := YJ (hu.drop j) m; have c2 := hu.get (j + (m + 2)); have c3 := hu.get (j + (m + 1)); have c4 := hu.get (j + m); have pj := Bpos j
  have hUV : pre (us.drop j) (m + 3) < val vs * 1073741824 := by
    have h1 : BB ^ j * pre (us.drop j) (m + 3) < BB ^ j * (val vs * 1073741824) := by
      have : val vs * BB ^ (j + 1) = BB ^ j * (val vs * 1073741824) := by rw [Int.pow_succ]; simp only [BB]; grind
      omega
    exact Int.lt_of_mul_lt_mul_left h1 (by omega)
  have hi : us.getD (j + (m + 2)) 0 ≤ vs.getD (m + 1) 0 := by
    have h1 : us.getD (j + (m + 2)) 0 * (1073741824 * 1073741824 * BB ^ m) ≤ pre (us.drop j) (m + 3) := by
      rw [u2]; have : 0 ≤ (us.getD (j + (m + 1)) 0 * 1073741824 + us.getD (j + m) 0) * BB ^ m := Int.mul_nonneg (by omega) (by have := Bpos m; omega)
      have e : (us.getD (j + (m + 2)) 0 * 1073741824 * 1073741824 + us.getD (j + (m + 1)) 0 * 1073741824 + us.getD (j + m) 0) * BB ^ m = us.getD (j + (m + 2)) 0 * (1073741824 * 1073741824 * BB ^ m) + (us.getD (j + (m + 1)) 0 * 1073741824 + us.getD (j + m) 0) * BB ^ m := by grind
      omega
    have h2 : val vs * 1073741824 < (vs.getD (m + 1) 0 + 1) * (1073741824 * 1073741824 * BB ^ m) := by
      rw [v2]
      have e : (vs.getD (m + 1) 0 + 1) * (1073741824 * 1073741824 * BB ^ m) = ((vs.getD (m + 1) 0 * 1073741824 + 1073741824) * BB ^ m) * 1073741824 := by grind
      rw [e]; have : (vs.getD (m + 1) 0 * 1073741824 + vs.getD m 0 + 1) * BB ^ m ≤ (vs.getD (m + 1) 0 * 1073741824 + 1073741824) * BB ^ m := Int.mul_le_mul_of_nonneg_right (by simp only [BB] at b3; omega) (by have := Bpos m; omega)
      have e5 : (vs.getD (m + 1) 0 * 1073741824 + vs.getD m 0 + 1) * BB ^ m = (vs.getD (m + 1) 0 * 1073741824 + vs.getD m 0) * BB ^ m + BB ^ m := by grind
      omega
    have h3 : us.getD (j + (m + 2)) 0 * (1073741824 * 1073741824 * BB ^ m) < (vs.getD (m + 1) 0 + 1) * (1073741824 * 1073741824 * BB ^ m) := by omega
    have h4 : (0 : Int) ≤ 1073741824 * 1073741824 * BB ^ m := by have := Bpos m; omega
    have := Int.lt_of_mul_lt_mul_right h3 h4; omega
  have G := gs_good (P := BB ^ m) (h := us.getD (j + (m + 2)) 0) (n := us.getD (j + (m + 1)) 0) (t := us.getD (j + m) 0) (l := vs.getD (m + 1) 0) (s := vs.getD m 0) (a := pre (us.drop j) m) (b := pre vs m)
    (Bpos m) c1 b1 hld b3.1 c2.1 c3.1 c4.1 (by rw [← u2, ← v2]; exact hUV)
  rw [← u2, ← v2] at G; generalize gs (us.getD (j + (m + 2)) 0) (us.getD (j + (m + 1)) 0) (us.getD (j + m) 0) (vs.getD (m + 1) 0) (vs.getD m 0) = gg at *; obtain ⟨g1, g2, g3, g4⟩ := G; generalize pre (us.drop j) (m + 3) = U at *; refine ⟨hi, g1, g2, ?_, ?_, uz, vpos, vlt⟩
  · have := Int.mul_le_mul_of_nonneg_right g3 (Int.le_of_lt pj); rw [u1, Int.mul_comm (BB ^ j)]; omega
  · have : (U + 1) * BB ^ j ≤ (gg + 1) * val vs * BB ^ j := Int.mul_le_mul_of_nonneg_right (by omega) (Int.le_of_lt pj); rw [Int.add_mul, Int.one_mul] at this; rw [u1, Int.mul_comm (BB ^ j)]; omega
structure Win (us vs : List Int) (j : Nat) (f : Int) (lo hi : Int) (i : Nat) (zs : List Int) (c : Int) : Prop where
  len : zs.length = us.length
  ok : OKL zs
  same : ∀ p, p < j ∨ j + i ≤ p → zs.getD p 0 = us.getD p 0
  lo : lo ≤ c
  hi : c ≤ hi
  value : val zs + c * BB ^ (j + i) = val us + f * pre vs i * BB ^ j
theorem Win.zero {us vs : List Int} {j : Nat} {f lo hi : Int} (hu : OKL us) (h1 : lo ≤ 0) (h2 : 0 ≤ hi) : Win us vs j f lo hi 0 us 0 :=
  ⟨rfl, hu, fun _ _ => rfl, h1, h2, by rw [Z0]; simp⟩
theorem Win.step {us vs : List Int} {j : Nat} {f lo hi : Int} {i : Nat} {zs : List Int} {c : Int} (h : Win us vs j f lo hi i zs c) (hl : j + i < us.length)
    (h1 : lo ≤ (zs.getD (j + i) 0 + f * vs.getD i 0 + c) / 1073741824) (h2 : (zs.getD (j + i) 0 + f * vs.getD i 0 + c) / 1073741824 ≤ hi) :
    Win us vs j f lo hi (i + 1) (zs.set (j + i) ((zs.getD (j + i) 0 + f * vs.getD i 0 + c) % 1073741824)) ((zs.getD (j + i) 0 + f * vs.getD i 0 + c) / 1073741824) := by
  have hlz : j + i < zs.length := by rw [h.len]; exact hl
  refine ⟨by simp [h.len], h.ok.set _ (by simp only [BB]; omega), fun p hp => ?_, h1, h2, ?_⟩
  · rw [getD_set hlz, if_neg (by omega)]; exact h.same p (by omega)
  · have hv := h.value; have e := Int.mul_ediv_add_emod (zs.getD (j + i) 0 + f * vs.getD i 0 + c) 1073741824; rw [val_set hlz, X4, show j + (i + 1) = j + i + 1 by omega, Int.pow_succ, Int.pow_add]; rw [Int.pow_add] at hv; simp only [BB] at *; generalize (zs.getD (j + i) 0 + f * vs.getD i 0 + c) / 1073741824 = Q at *; generalize (zs.getD (j + i) 0 + f * vs.getD i 0 + c) % 1073741824 = M at *; generalize (1073741824 : Int) ^ i = I at *; generalize (1073741824 : Int) ^ j = J at *; generalize zs.getD (j + i) 0 = z at *; generalize vs.getD i 0 = y at *; generalize pre vs i = pv at *; generalize val zs = vz at *; generalize val us = vu at *
    grind
theorem Win.lt {us vs : List Int} {j n : Nat} {f lo hi : Int} {zs : List Int} {c : Int} (h : Win us vs j f lo hi (n + 1) zs c) (hz : ∀ p, j + n + 1 ≤ p → us.getD p 0 = 0) : 0 ≤ val zs ∧ val zs < BB ^ (j + n + 1) := by
  have : val zs = pre zs (j + n + 1) := val_of_zeros (fun p hp => by rw [h.same p (by omega)]; exact hz p hp); rw [this]; exact YJ h.ok _
theorem sub_done {V J W R c z : Int} (hW : V * J < W) (hlo : -(V * J) ≤ R) (hhi : R < V * J) (hz0 : 0 ≤ z) (hzW : z < W) (hc : c ≤ 0) (he : z + c * W = R) :
    (¬ c < 0 → z = R) ∧ (c < 0 → z = R + W ∧ R < 0) := by
  refine ⟨fun h => ?_, fun h => ?_⟩
  · have : c = 0 := by omega
    subst this; omega
  · have h1 : c = -1 := by
      by_cases h2 : c ≤ -2
      · have : c * W ≤ -2 * W := Int.mul_le_mul_of_nonneg_right h2 (by omega); omega
      · omega
    subst h1; omega
theorem add_done {V W R c z : Int} (hW : V < W) (hlo : -V ≤ R) (hhi : R < 0) (hz0 : 0 ≤ z) (hzW : z < W) (he : z + c * W = (R + W) + V) : z = R + V := by
  have h1 : c = 1 := by
    by_cases h2 : c ≤ 0
    · have : c * W ≤ 0 * W := Int.mul_le_mul_of_nonneg_right h2 (by omega); omega
    · by_cases h3 : 2 ≤ c
      · have : 2 * W ≤ c * W := Int.mul_le_mul_of_nonneg_right h3 (by omega); omega
      · omega
  subst h1; omega
end Go.Limbs
namespace Go.Proofs.YtlkdkbdgnjcopaaGreat
open Go.Own Go.Limbs
attribute [local irreducible] St Ops Go.Own.Fin Ok OkF
theorem top_pos {b : Nat} (h : 0 < (limbs b).length) : 0 < (limbs b).getD ((limbs b).length - 1) 0 := by
  have h1 := (X2 b).get ((limbs b).length - 1)
  have h2 : (limbs b).getD ((limbs b).length - 1) 0 ≠ 0 := by
    intro he; have h2 := trim_last (ys := limbs b) (by omega) he; rw [trim_of_limbs] at h2; have h3 := trim_len ((limbs b).take ((limbs b).length - 1)); rw [h2] at h3; simp at h3; omega
  omega
theorem top_split {b : Nat} (h : 0 < (limbs b).length) : (b : Int) = pre (limbs b) ((limbs b).length - 1) + (limbs b).getD ((limbs b).length - 1) 0 * BB ^ ((limbs b).length - 1) := by
  rw [← X4, show (limbs b).length - 1 + 1 = (limbs b).length by omega, val_eq_pre]
theorem shifted_top {b : Nat} {k : Nat} (hk : k ≤ 30) (hn : 0 < (limbs b).length) (ht : (limbs b).getD ((limbs b).length - 1) 0 < 2 ^ (30 - k)) :
    (shl (limbs b) k).getD (limbs b).length 0 = 0 ∧ 0 < (shl (limbs b) k).getD ((limbs b).length - 1) 0 := by
  have hv := shl_val (limbs b) k (X2 b); rw [Xn] at hv; have hs := top_split hn; have hp := top_pos hn; have hb := YJ (X2 b) ((limbs b).length - 1); have h2k : (0 : Int) < 2 ^ k := Int.pow_pos (by decide)
  have hlt : val (shl (limbs b) k) < BB ^ (limbs b).length := by
    rw [hv]
    have h1 : (b : Int) < 2 ^ (30 - k) * BB ^ ((limbs b).length - 1) := by
      have : ((limbs b).getD ((limbs b).length - 1) 0 + 1) * BB ^ ((limbs b).length - 1) ≤ 2 ^ (30 - k) * BB ^ ((limbs b).length - 1) := Int.mul_le_mul_of_nonneg_right (by omega) (Int.le_of_lt (Bpos _)); rw [Int.add_mul, Int.one_mul] at this; omega
    have h2 := Int.mul_lt_mul_of_pos_right h1 h2k
    have h3 : 2 ^ (30 - k) * BB ^ ((limbs b).length - 1) * 2 ^ k = BB ^ (limbs b).length := by
      have e := two_split hk
      have e2 : BB ^ (limbs b).length = BB ^ ((limbs b).length - 1) * BB := by rw [← Int.pow_succ]; congr 1; omega
      rw [e2]; show _ = BB ^ ((limbs b).length - 1) * (1073741824 : Int); rw [e]; grind
    omega
  refine ⟨zero_above (shl_ok _ _) hlt _ (Nat.le_refl _), ?_⟩; have h1 := (shl_ok (limbs b) k).get ((limbs b).length - 1); by_cases h0 : (shl (limbs b) k).getD ((limbs b).length - 1) 0 = 0
  · exfalso; have e1 := val_pre_of (shl_ok (limbs b) k) hlt; rw [show (limbs b).length = ((limbs b).length - 1) + 1 by omega, X4, h0] at e1; have e2 := YJ (shl_ok (limbs b) k) ((limbs b).length - 1)
    have e3 : BB ^ ((limbs b).length - 1) ≤ (b : Int) := by
      have : 1 * BB ^ ((limbs b).length - 1) ≤ (limbs b).getD ((limbs b).length - 1) 0 * BB ^ ((limbs b).length - 1) := Int.mul_le_mul_of_nonneg_right (by omega) (Int.le_of_lt (Bpos _)); omega
    have e4 : (b : Int) * 1 ≤ b * 2 ^ k := Int.mul_le_mul_of_nonneg_left (by omega) (by omega); omega
  · omega
theorem first_lt {a b : Nat} {k : Nat} (hn : 0 < (limbs b).length) (hl : (limbs b).length ≤ (limbs a).length) :
    val (shl (limbs a) k) < val (shl (limbs b) k) * BB ^ ((limbs a).length - (limbs b).length + 1) := by
  rw [shl_val _ _ (X2 a), shl_val _ _ (X2 b), Xn, Xn]; have hs := top_split hn; have hp := top_pos hn; have hb := YJ (X2 b) ((limbs b).length - 1); have ha := YJ (X2 a) (limbs a).length; rw [val_eq_pre] at ha; have h2k : (0 : Int) < 2 ^ k := Int.pow_pos (by decide)
  have e3 : BB ^ ((limbs b).length - 1) ≤ (b : Int) := by
    have : 1 * BB ^ ((limbs b).length - 1) ≤ (limbs b).getD ((limbs b).length - 1) 0 * BB ^ ((limbs b).length - 1) := Int.mul_le_mul_of_nonneg_right (by omega) (Int.le_of_lt (Bpos _)); omega
  have e4 := Int.mul_le_mul_of_nonneg_right e3 (Int.le_of_lt (Bpos ((limbs a).length - (limbs b).length + 1))); rw [← Int.pow_add, show (limbs b).length - 1 + ((limbs a).length - (limbs b).length + 1) = (limbs a).length by omega] at e4
  have e5 : (a : Int) < b * BB ^ ((limbs a).length - (limbs b).length + 1) := by omega
  have e6 := Int.mul_lt_mul_of_pos_right e5 h2k
  have e7 : (b : Int) * BB ^ ((limbs a).length - (limbs b).length + 1) * 2 ^ k = b * 2 ^ k * BB ^ ((limbs a).length - (limbs b).length + 1) := by grind
  omega
theorem gd_bd {g y c z : Int} (hg0 : 0 ≤ g) (hg : g ≤ 1073741823) (hy0 : 0 ≤ y) (hy : y < 1073741824) (hz0 : 0 ≤ z) (hz : z < 1073741824) (hc0 : -1073741824 ≤ c) (hc : c ≤ 0) :
    0 ≤ g * y ∧ g * y ≤ 1152921502459363329 ∧ -1073741824 ≤ (z - g * y + c) / 1073741824 ∧ (z - g * y + c) / 1073741824 ≤ 0 := by
  have h1 : 0 ≤ g * y := Int.mul_nonneg hg0 hy0; have h2 : g * y ≤ 1073741823 * 1073741823 := Int.mul_le_mul hg (by omega) hy0 (by omega); exact ⟨h1, by omega, by omega, by omega⟩
theorem fin_val {a b k : Nat} {A Q : Int} (hb : 0 < b) (hA : 0 ≤ A) (hlt : A < b * 2 ^ k) (hi : A + Q * (b * 2 ^ k) = a * 2 ^ k) : Q = ((a / b : Nat) : Int) ∧ A = (((a % b) * 2 ^ k : Nat) : Int) := by
  have h2k : (0 : Int) < 2 ^ k := Int.pow_pos (by decide)
  have e : A = ((a : Int) - Q * b) * 2 ^ k := by grind
  have h0 : 0 ≤ (a : Int) - Q * b := by
    by_cases h : 0 ≤ (a : Int) - Q * b
    · exact h
    · have : ((a : Int) - Q * b) * 2 ^ k < 0 := Int.mul_neg_of_neg_of_pos (by omega) h2k; omega
  have h1 : (a : Int) - Q * b < b := by
    have : ((a : Int) - Q * b) * 2 ^ k < b * 2 ^ k := by omega
    exact Int.lt_of_mul_lt_mul_right this (by omega)
  have h2 : (a : Int) / b = Q ∧ (a : Int) % b = a - Q * b := by
    rw [Int.ediv_emod_unique (by omega)]; refine ⟨?_, h0, h1⟩; rw [Int.mul_comm (b : Int)]; omega
  refine ⟨by rw [Int.natCast_ediv]; exact h2.1.symm, ?_⟩; rw [e, Int.natCast_mul, Int.natCast_emod, h2.2, Int.natCast_pow]; rfl
theorem shr_limbs (r k : Nat) (hk : k ≤ 30) : trimL (shrL k (limbs (r * 2 ^ k))) = limbs r := by
  rw [Zw (shrL_ok _ _), val_shrL hk _ (X2 _), Xn, Int.natCast_mul, Int.natCast_pow]
  congr 1
  have h2k : (2 : Int) ^ k ≠ 0 := by have : (0 : Int) < 2 ^ k := Int.pow_pos (by decide); omega
  show ((r : Int) * 2 ^ k / 2 ^ k).toNat = r; rw [Int.mul_ediv_cancel _ h2k]; simp
theorem trim_take {us : List Int} {n : Nat} (h : OKL us) (hv : val us < BB ^ n) : trimL (us.take n) = limbs (val us).toNat := by
  rw [Zw (h.take n)]
  congr 2
  exact (val_pre_of h hv).symm
set_option maxHeartbeats 16000000 in
theorem DivMod_big (a b : Nat) (hb : 2 ≤ (limbs b).length) (hab : b ≤ a) (hl : (limbs a).length ≤ 256) : Ok Tryz.prog 138 [natC a, natC b] (.fr (tupT [natC (a / b), natC (a % b), intC 0])) := by
  have hlab : (limbs b).length ≤ (limbs a).length := X8 hab; have htp := top_pos (b := b) (by omega); have htb := (X2 b).get ((limbs b).length - 1); simp only [BB] at htb; obtain ⟨tp, htq⟩ : ∃ tp : Nat, (limbs b).getD ((limbs b).length - 1) 0 = tp := ⟨((limbs b).getD ((limbs b).length - 1) 0).toNat, by omega⟩; have hbn := bln_spec (n := tp) (by omega) (by omega); obtain ⟨k, hk⟩ : ∃ k, bln tp = 30 - k ∧ k ≤ 30 := ⟨30 - bln tp, by omega, by omega⟩; have hk30 := hk.2
  have htop : (limbs b).getD ((limbs b).length - 1) 0 < 2 ^ (30 - k) := by
    rw [htq, ← hk.1]
    have : ((2 ^ bln tp : Nat) : Int) = (2 : Int) ^ bln tp := by rw [Int.natCast_pow]; rfl
    omega
  have hst := shifted_top hk30 (by omega) htop; have hfl := first_lt (k := k) (b := b) (by omega) hlab; have hUl := shl_len (limbs a) k hk30 (X2 a); have hVl := shl_len (limbs b) k hk30 (X2 b); have hUok := shl_ok (limbs a) k; have hVok := shl_ok (limbs b) k; have hUv := shl_val (limbs a) k (X2 a); have hVv := shl_val (limbs b) k (X2 b); rw [Xn] at hUv hVv; have hAok := shifted_ok (limbs a) k hk30 (X2 a) (by omega); have hBok := shifted_ok (limbs b) k hk30 (X2 b) (by omega); generalize shl (limbs a) k = U0 at *; generalize shl (limbs b) k = V at *; have eN : ((limbs b).length : Int).toNat = (limbs b).length := Int.toNat_natCast _; generalize hN : (limbs b).length = n at *; generalize hLA : (limbs a).length = la at *
  refine Ok.enter Tryz.func138 Y _ Tryz.ntmps138 Y ?_
  intro S w; refine Qw (Qx fun K hK => ?_); refine Qv Y Y Y (Qv Y Y Y (Qv Y Y Y (Qj (hK _ _ (Qz (Qw ?_)))))); clear hK K; refine Qx (fun K hK => ?_); refine Qq Y Y Y (QW gotrim (trim_ok _ (by omega)) Y Y Y Y ?_); rw [trim_of_limbs]; refine Qv Y Y Y (Qj (hK _ _ (Qz (Qw ?_)))); clear hK K; refine Qx (fun K hK => ?_); refine Qq Y Y Y (Qb Y Y sNat.und (List.length_map ..) Y (Qv Y Y Y (Qj (hK _ _ (Qz (Qw (Q5 (Qw ?_)))))))); clear hK K; refine Qx (fun K hK => ?_); refine Qq Y Y Y (Qk ieql Y Y Y Y (Qv Y Y Y (Qj (hK _ _ (Qz ?_))))); clear hK K; rw [hN]; refine Q2 Y (fun h => by exfalso; omega) (fun h => ?_); clear h; refine Qw (Qx fun K hK => ?_); refine Qq Y Y Y (Qq Y Y Y (QW goCompare (Compare_ok a b (by omega) (by omega)) Y Y Y Y ?_)); refine Qk ilss Y Y Y Y (Qv Y Y Y (Qj (hK _ _ (Qz ?_)))); clear hK K; refine Q2 Y (fun h => ?_) (fun h => ?_)
  · exfalso; rw [Xt] at h; split at h
    · omega
    · split at h <;> omega
  clear h; refine Qw (Qx fun K hK => ?_); refine Qq Y Y Y (Qk ieql Y Y Y Y (Qv Y Y Y (Qj (hK _ _ (Qz ?_))))); clear hK K; refine Q2 Y (fun h => by exfalso; omega) (fun h => ?_); clear h; refine Q1 (Qz (Qw (Qx fun K hK => ?_))); refine Qq Y Y Y (Qq Y Y Y (Qk (isub (by omega) (by omega)) Y Y Y Y ?_))
  refine Qh Y Y Y sNat (by omega) (X9 (by omega) (by omega)) Y ?_
  refine XQ Y Y Y lInt Y ?_
  rw [show ((n : Int) - 1).toNat = n - 1 by omega, htq]
  refine Xe (q := (tp : Int)) Y Y uIntB uUintB (wrap_u (by omega) (by omega)) Y ?_
  refine QW goLen (Len_ok tp (by omega)) Y Y Y Y ?_
  refine Qk (isub (by omega) (by omega)) Y Y Y Y ?_
  refine Qv Y Y Y (Qj (hK _ _ (Qz (Qw ?_)))); clear hK K; refine Qx (fun K hK => ?_); refine Qq Y Y Y (Qq Y Y Y ?_); rw [show (30 : Int) - (bln tp : Int) = (k : Int) by omega]; skip; refine ZQ 0 goshifted hAok Y Y Y Y Y Y (Qq Y Y Y (Qq Y Y Y (ZQ 1 goshifted hBok Y Y Y Y Y Y (Qv Y Y Y (Qv Y Y Y (Qj (hK _ _ (Qz (Qw ?_))))))))); clear hK K; refine Qx (fun K hK => ?_); refine Qq Y Y Y (Qb Y Y sNat.und (List.length_map ..) Y (Qq Y Y Y (Qk (isub (by omega) (by omega)) Y Y Y Y ?_)))
  refine Qk (iadd (by omega) (by omega)) Y Y Y Y ?_
  rw [hLA]
  refine Ops.make 2 (la - n + 1) Y Y Y (by omega) sNat (by omega) (by omega) Y Y Y ?_
  rw [ints_made]; refine Qv Y Y Y (Qj (hK _ _ (Qz (Qw (Qw ?_))))); clear hK K; refine Qx (fun K hK => ?_); refine Qq Y Y Y (Qb Y Y sNat.und (List.length_map ..) Y (Qq Y Y Y (Qk (isub (by omega) (by omega)) Y Y Y Y ?_))); refine Qv Y Y Y (Qj (hK _ _ (Qz (Q5 ?_)))); clear hK K; rw [hLA]
  refine Xx (α := Nat × List Int × List Int) (fun s => s.1 ≤ la - n + 1 ∧ s.2.1.length = la + 1 ∧ OKL s.2.1 ∧ val s.2.1 < val V * BB ^ s.1 ∧ s.2.2.length = la - n + 1 ∧ OKL s.2.2 ∧ (∀ p, p < s.1 → s.2.2.getD p 0 = 0) ∧ val s.2.1 + val s.2.2 * val V = val U0)
    (fun s => [(0, .ct (natC a)), (1, .ct (natC b)), (7, .ct (intC n)), (10, .ct (intC k)), (11, .own 0), (12, .own 1), (13, .own 2), (14, .ct (intC ((s.1 : Int) - 1)))])
    (fun s => [(2, .row 3 1 (ints s.2.2)), (1, .row 3 1 (ints V)), (0, .row 3 1 (ints s.2.1))])
    (fun s => s.1) (la - n + 1, U0, List.replicate (la - n + 1) 0) ⟨Nat.le_refl _, by dsimp only; omega, hUok, hfl, by simp, OKL.zeros _, ?_, ?_⟩ (by exact QX Y ⟨rfl, rfl, rfl, rfl, rfl, rfl, rfl, by show _ = some (Sl.ct (intC (((la - n + 1 : Nat) : Int) - 1))); rw [show (((la - n + 1 : Nat) : Int) - 1) = (la : Int) - n by omega]; rfl, trivial⟩) ?_
  · intro p _; simp [List.getD_eq_getElem?_getD, List.getElem?_replicate]; split <;> rfl
  · dsimp only; rw [YU]; simp
  rintro ⟨J, us, qs⟩ ⟨hJ, hul, huok, hult, hql, hqok, hqz, hinv⟩
  dsimp only at hJ hul huok hult hql hqok hqz hinv ⊢; refine Qw (Qw (Qx fun K hK => ?_)); refine Qq Y Y Y (Qk igeq Y Y Y Y (Qj (hK _ _ (Qz ?_)))); clear hK K; refine Q2 Y (fun h => ?_) (fun h => ?_)
  · obtain ⟨j, rfl⟩ : ∃ j, J = j + 1 := ⟨J - 1, by omega⟩
    have ej : (((j + 1 : Nat) : Int) - 1) = (j : Int) := by omega
    rw [ej]; have W := win (n := n) (j := j) huok hVok (by omega) (by omega) hst.1 hst.2 hult; have c1 := huok.get (j + n); have c2 := huok.get (j + n - 1); have c3 := huok.get (j + n - 2); have c4 := hVok.get (n - 1); have c5 := hVok.get (n - 2); simp only [BB] at c1 c2 c3 c4 c5
    have i1 : ((j : Int) + n).toNat * 1 = j + n := by omega
    have i2 : ((j : Int) + n - 1).toNat * 1 = j + n - 1 := by omega
    have i3 : ((j : Int) + n - 2).toNat * 1 = j + n - 2 := by omega
    have i4 : ((n : Int) - 1).toNat * 1 = n - 1 := by omega
    have i5 : ((n : Int) - 2).toNat * 1 = n - 2 := by omega
    refine Q1 (Qz (Qw (Q5 (Qw ?_)))); refine Xw mixed 32 (.p 0 (.p 1 (.p 2 (.p 3 (.p 4 (.p 6 (.p 7 (.p 8 (.p 9 (.p 10 (.p 11 (.p 13 (.p 14 (.p 15 (.p 16 (.p 17 (.p 18 (.p 20 (.p 21 (.p 22 (.p 23 (.p 25 (.p 26 (.p 27 (.p 28 (.f 5 (.f 12 (.f 19 (.f 24 (.f 29 (.m 30 (.p 31 .done)))))))))))))))))))))))))))))))) (by kernel_rfl) (fun K hK => ?_); refine Qq Y Y Y (Qq Y Y Y (Qq Y Y Y (Qk (iadd (by omega) (by omega)) Y Y Y Y ?_)))
    refine Xu (la + 1) Y Y Y (by simp; omega) Y sNat (by omega) (by omega) Y ?_
    rw [i1]; refine Qq Y Y Y (Qq Y Y Y (Qq Y Y Y (Qk (iadd (by omega) (by omega)) Y Y Y Y ?_)))
    refine Qk (isub (by omega) (by omega)) Y Y Y Y ?_
    refine Xu (la + 1) Y Y Y (by simp; omega) Y sNat (by omega) (by omega) Y ?_
    rw [i2]; refine Qq Y Y Y (Qq Y Y Y (Qq Y Y Y (Qk (iadd (by omega) (by omega)) Y Y Y Y ?_)))
    refine Qk (isub (by omega) (by omega)) Y Y Y Y ?_
    refine Xu (la + 1) Y Y Y (by simp; omega) Y sNat (by omega) (by omega) Y ?_
    rw [i3]; refine Qq Y Y Y (Qq Y Y Y (Qk (isub (by omega) (by omega)) Y Y Y Y ?_))
    refine Xu (n + 1) Y Y Y (by simp; omega) Y sNat (by omega) (by omega) Y ?_
    rw [i4]; refine Qq Y Y Y (Qq Y Y Y (Qk (isub (by omega) (by omega)) Y Y Y Y ?_))
    refine Xu (n + 1) Y Y Y (by simp; omega) Y sNat (by omega) (by omega) Y ?_
    rw [i5]; skip
    refine QY Y Y Y Y (Zd (by omega)) lInt Y ?_
    refine QY Y Y Y Y (Zd (by omega)) lInt Y ?_
    refine QY Y Y Y Y (Zd (by omega)) lInt Y ?_
    refine QY Y Y Y Y (Zd (by omega)) lInt Y ?_
    refine QY Y Y Y Y (Zd (by omega)) lInt Y ?_
    refine QW goguess (guess_ok _ _ _ _ _ c1.1 W.1 hst.2 c4.2 c2.1 c2.2 c3.1 c3.2 c5.1 c5.2) Y Y Y Y ?_
    generalize gs (us.getD (j + n) 0) (us.getD (j + n - 1) 0) (us.getD (j + n - 2) 0) (V.getD (n - 1) 0) (V.getD (n - 2) 0) = gg at *; obtain ⟨-, g1, g2, g3, g4, uz, vpos, vlt⟩ := W
    have hVJ : val V * BB ^ j < BB ^ (j + n + 1) := by
      have h1 : val V * BB ^ j < BB ^ n * BB ^ j := Int.mul_lt_mul_of_pos_right vlt (Bpos _)
      have h2 : BB ^ n * BB ^ j ≤ BB ^ (j + n + 1) := by
        rw [← Int.pow_add, show j + n + 1 = (n + j) + 1 by omega, Int.pow_succ]; have := Bpos (n + j); simp only [BB] at *; omega
      omega
    have hRlo : -(val V * BB ^ j) ≤ val us - gg * val V * BB ^ j := by
      have : (gg - 1) * val V * BB ^ j = gg * val V * BB ^ j - val V * BB ^ j := by grind
      omega
    have hRhi : val us - gg * val V * BB ^ j < val V * BB ^ j := by
      have : (gg + 1) * val V * BB ^ j = gg * val V * BB ^ j + val V * BB ^ j := by grind
      omega
    refine Qv Y Y Y (Qj (hK _ _ (Qz (Qw ?_)))); clear hK K; refine Qx (fun K hK => ?_); refine Qv Y Y Y (Qj (hK _ _ (Qz (Qw (Qw ?_))))); clear hK K; refine Qx (fun K hK => ?_); refine Qq Y Y Y (Qk (iadd (by omega) (by omega)) Y Y Y Y ?_); refine Qq Y Y Y (Qj (hK _ _ (Qz (Q5 ?_)))); clear hK K
    refine Xx (α := Nat × List Int × Int) (fun s => s.1 ≤ n + 1 ∧ Win us V j (-gg) (-1073741824) 0 s.1 s.2.1 s.2.2)
      (fun s => [(0, .ct (natC a)), (1, .ct (natC b)), (7, .ct (intC n)), (10, .ct (intC k)), (11, .own 0), (12, .own 1), (13, .own 2), (14, .ct (intC j)), (15, .ct (intC gg)), (16, .ct (intC s.2.2)), (113, .ct (intC ((n : Int) + 1))), (114, .ct (intC s.1))])
      (fun s => [(2, .row 3 1 (ints qs)), (1, .row 3 1 (ints V)), (0, .row 3 1 (ints s.2.1))])
      (fun s => n + 1 - s.1) (0, us, 0) ⟨Nat.zero_le _, Win.zero huok (by decide) (by decide)⟩ (by exact QX Y ⟨rfl, rfl, rfl, rfl, rfl, rfl, rfl, rfl, rfl, rfl, rfl, rfl, trivial⟩) ?_
    · rintro ⟨i, zs, c⟩ ⟨hi, HW⟩
      dsimp only at hi HW ⊢; have hzl := HW.len; refine Qw (Qx fun K hK => ?_); refine Qk ilss Y Y Y Y (Qj (hK _ _ (Qz (Qw ?_)))); clear hK K; refine Q2 Y (fun h2 => ?_) (fun h2 => ?_)
      · have d1 := HW.ok.get (j + i); have d2 := hVok.get i; simp only [BB] at d1 d2; have d3 := HW.lo; have d4 := HW.hi; have GB := gd_bd g1 g2 d2.1 d2.2 d1.1 d1.2 d3 d4
        have k1 : ((j : Int) + i).toNat * 1 = j + i := by omega
        have k2 : (i : Int).toNat * 1 = i := by omega
        refine Q1 (Qz (Qw (Q5 (Qw (Qx fun K hK => ?_))))); refine Qq Y Y Y (Qv Y Y Y (Qj (hK _ _ (Qz (Qw ?_))))); clear hK K; refine Xw mixed 16 (.p 0 (.p 1 (.p 2 (.p 3 (.p 4 (.p 6 (.p 7 (.p 8 (.p 9 (.p 13 (.f 5 (.f 10 (.p 11 (.p 12 (.p 14 (.p 15 .done)))))))))))))))) (by kernel_rfl) (fun K hK => ?_); refine Qq Y Y Y (Qq Y Y Y (Qq Y Y Y (Qk (iadd (by omega) (by omega)) Y Y Y Y ?_)))
        refine Xu (la + 1) Y Y Y (by simp; omega) Y sNat (by omega) (by omega) Y ?_
        rw [k1]; refine Qq Y Y Y (Qq Y Y Y (Qq Y Y Y (Xu (n + 1) Y Y Y (by simp; omega) Y sNat (by omega) (by omega) Y ?_))); rw [k2]; refine Qq Y Y Y (QY Y Y Y Y (Zd (by omega)) lInt Y ?_)
        refine QY Y Y Y Y (Zd (by omega)) lInt Y ?_
        refine Qk (imul (by omega) (by omega)) Y Y Y Y ?_
        refine Qk (isub (by omega) (by omega)) Y Y Y Y ?_
        refine Qk (iadd (by omega) (by omega)) Y Y Y Y ?_
        refine Qv Y Y Y (Qj (hK _ _ (Qz ?_))); clear hK K; refine Qx (fun K hK => ?_); refine Qq Y Y Y (Qq Y Y Y (Qq Y Y Y (Qk (iadd (by omega) (by omega)) Y Y Y Y ?_))); refine Qq Y Y Y (Qk iand30 Y Y Y Y (Qq Y Y Y (Qk ishr30 Y Y Y Y ?_))); skip
        refine Xu (la + 1) Y Y Y (by simp; omega) Y sNat (by omega) (by omega) Y ?_
        rw [k1]
        refine XY Y Y Y Y Y zInt (by simp [Ent.cs]; omega) ?_
        simp only [Ent.setc, Z8]; refine Qv Y Y Y (Qj (hK _ _ (Qz ?_))); clear hK K; refine Qx (fun K hK => ?_)
        refine Qk (iadd (by omega) (by omega)) Y Y Y Y ?_
        refine Qq Y Y Y (Qj (hK _ _ (Q4 ?_))); clear hK K
        have ef : zs.getD (j + i) 0 - gg * V.getD i 0 + c = zs.getD (j + i) 0 + -gg * V.getD i 0 + c := by rw [Int.neg_mul]; omega
        have HS := HW.step (by omega) (by rw [← ef]; exact GB.2.2.1) (by rw [← ef]; exact GB.2.2.2); rw [← ef] at HS; refine Q8 (i + 1, _, _) (by dsimp only; omega) ⟨by dsimp only; omega, HS⟩ (by exact QX Y ⟨rfl, rfl, rfl, rfl, rfl, rfl, rfl, rfl, rfl, rfl, rfl, by simp only [Int.natCast_add]; rfl, trivial⟩)
      · have hi' : i = n + 1 := by omega
        subst hi'; have hzr := HW.lt uz; have hval := HW.value; rw [ZY (xs := V) (by omega), show j + (n + 1) = j + n + 1 by omega] at hval
        have hR2 : val zs + c * BB ^ (j + n + 1) = val us - gg * val V * BB ^ j := by rw [hval, Int.neg_mul, Int.neg_mul]; omega
        have SD := sub_done hVJ hRlo hRhi hzr.1 hzr.2 HW.hi hR2; refine Qs (Qz (Qw (Qw (Qx fun K hK => ?_)))); refine Qq Y Y Y (Qk ilss Y Y Y Y (Qj (hK _ _ (Qz ?_)))); clear hK K; refine Q2 Y (fun h3 => ?_) (fun h3 => ?_)
        · obtain ⟨s1, s2⟩ := SD.2 h3; have hus0 := Yk huok
          have gpos : 1 ≤ gg := by
            by_cases h0 : gg = 0
            · subst h0; simp at s2; omega
            · omega
          have zz : ∀ p, j + n + 1 ≤ p → zs.getD p 0 = 0 := fun p hp => by rw [HW.same p (by omega)]; exact uz p hp
          have hzok := HW.ok; clear HW hval hR2 SD; refine Qw (Qx fun K hK => ?_); refine Qq Y Y Y (Qk (isub (by omega) (by omega)) Y Y Y Y ?_); refine Qv Y Y Y (Qv Y Y Y (Qj (hK _ _ (Qz (Qw ?_))))); clear hK K; refine Qx (fun K hK => ?_); refine Qq Y Y Y (Qk (iadd (by omega) (by omega)) Y Y Y Y ?_); refine Qq Y Y Y (Qj (hK _ _ (Qz (Q5 ?_)))); clear hK K
          refine Xx (α := Nat × List Int × Int) (fun s => s.1 ≤ n + 1 ∧ Win zs V j 1 0 1 s.1 s.2.1 s.2.2)
            (fun s => [(0, .ct (natC a)), (1, .ct (natC b)), (7, .ct (intC n)), (10, .ct (intC k)), (11, .own 0), (12, .own 1), (13, .own 2), (14, .ct (intC j)), (15, .ct (intC (gg - 1))), (16, .ct (intC s.2.2)), (147, .ct (intC ((n : Int) + 1))), (148, .ct (intC s.1))])
            (fun s => [(2, .row 3 1 (ints qs)), (1, .row 3 1 (ints V)), (0, .row 3 1 (ints s.2.1))])
            (fun s => n + 1 - s.1) (0, zs, 0) ⟨Nat.zero_le _, Win.zero hzok (by decide) (by decide)⟩ (by exact QX Y ⟨rfl, rfl, rfl, rfl, rfl, rfl, rfl, rfl, rfl, rfl, rfl, rfl, trivial⟩) ?_
          rintro ⟨i, ys, c'⟩ ⟨hi, HW⟩
          dsimp only at hi HW ⊢; have hyl := HW.len; refine Qw (Qx fun K hK => ?_); refine Qk ilss Y Y Y Y (Qj (hK _ _ (Qz (Qw ?_)))); clear hK K; refine Q2 Y (fun h4 => ?_) (fun h4 => ?_)
          · have d1 := HW.ok.get (j + i); have d2 := hVok.get i; simp only [BB] at d1 d2; have d3 := HW.lo; have d4 := HW.hi
            have k1 : ((j : Int) + i).toNat * 1 = j + i := by omega
            have k2 : (i : Int).toNat * 1 = i := by omega
            refine Q1 (Qz (Qw (Q5 (Qw (Qx fun K hK => ?_))))); refine Qq Y Y Y (Qv Y Y Y (Qj (hK _ _ (Qz (Qw ?_))))); clear hK K; refine Xw mixed 14 (.p 0 (.p 1 (.p 2 (.p 3 (.p 4 (.p 6 (.p 7 (.p 8 (.p 11 (.f 5 (.f 9 (.p 10 (.p 12 (.p 13 .done)))))))))))))) (by kernel_rfl) (fun K hK => ?_); refine Qq Y Y Y (Qq Y Y Y (Qq Y Y Y (Qk (iadd (by omega) (by omega)) Y Y Y Y ?_)))
            refine Xu (la + 1) Y Y Y (by simp; omega) Y sNat (by omega) (by omega) Y ?_
            rw [k1]; refine Qq Y Y Y (Qq Y Y Y (Xu (n + 1) Y Y Y (by simp; omega) Y sNat (by omega) (by omega) Y ?_)); rw [k2]; refine Qq Y Y Y (QY Y Y Y Y (Zd (by omega)) lInt Y ?_)
            refine QY Y Y Y Y (Zd (by omega)) lInt Y ?_
            refine Qk (iadd (by omega) (by omega)) Y Y Y Y ?_
            refine Qk (iadd (by omega) (by omega)) Y Y Y Y ?_
            refine Qv Y Y Y (Qj (hK _ _ (Qz ?_))); clear hK K; refine Qx (fun K hK => ?_); refine Qq Y Y Y (Qq Y Y Y (Qq Y Y Y (Qk (iadd (by omega) (by omega)) Y Y Y Y ?_))); refine Qq Y Y Y (Qk iand30 Y Y Y Y (Qq Y Y Y (Qk ishr30 Y Y Y Y ?_))); skip
            refine Xu (la + 1) Y Y Y (by simp; omega) Y sNat (by omega) (by omega) Y ?_
            rw [k1]
            refine XY Y Y Y Y Y zInt (by simp [Ent.cs]; omega) ?_
            simp only [Ent.setc, Z8]; refine Qv Y Y Y (Qj (hK _ _ (Qz ?_))); clear hK K; refine Qx (fun K hK => ?_)
            refine Qk (iadd (by omega) (by omega)) Y Y Y Y ?_
            refine Qq Y Y Y (Qj (hK _ _ (Q4 ?_))); clear hK K
            have ef : ys.getD (j + i) 0 + V.getD i 0 + c' = ys.getD (j + i) 0 + 1 * V.getD i 0 + c' := by omega
            have HS := HW.step (by omega) (by rw [← ef]; omega) (by rw [← ef]; omega); rw [← ef] at HS; refine Q8 (i + 1, _, _) (by dsimp only; omega) ⟨by dsimp only; omega, HS⟩ (by exact QX Y ⟨rfl, rfl, rfl, rfl, rfl, rfl, rfl, rfl, rfl, rfl, rfl, by simp only [Int.natCast_add]; rfl, trivial⟩)
          · have hi' : i = n + 1 := by omega
            subst hi'; have hyr := HW.lt zz; have hval := HW.value; rw [ZY (xs := V) (by omega), show j + (n + 1) = j + n + 1 by omega, Int.one_mul, s1] at hval; have AD := add_done hVJ hRlo s2 hyr.1 hyr.2 hval; have hyok := HW.ok
            have k3 : (j : Int).toNat * 1 = j := by omega
            clear HW hval; refine Qs (Qz (Qx fun K hK => ?_)); refine Qq Y Y Y (Qq Y Y Y (Qq Y Y Y (Xu (la - n + 1) Y Y Y (by simp; omega) Y sNat (by omega) (by omega) Y ?_))); rw [k3]
            refine XY Y Y Y Y Y zInt (by simp [Ent.cs]; omega) ?_
            simp only [Ent.setc, Z8]; refine Qj (hK _ _ (Qz ?_)); clear hK K; refine Qx (fun K hK => ?_); refine Qq Y Y Y (Qk (isub (by omega) (by omega)) Y Y Y Y ?_); refine Qv Y Y Y (Qj (hK _ _ (Q4 ?_))); clear hK K; refine Q8 (j, ys, qs.set j (gg - 1)) (by dsimp only; omega) ⟨by dsimp only; omega, by dsimp only; omega, hyok, ?_, by simp [hql], hqok.set _ (by simp only [BB]; omega), ?_, ?_⟩ (by exact QX Y ⟨rfl, rfl, rfl, rfl, rfl, rfl, rfl, rfl, trivial⟩)
            all_goals dsimp only
            · omega
            · intro p hp; rw [getD_set (by omega), if_neg (by omega)]; exact hqz p (by omega)
            · rw [AD, val_set (by omega), hqz j (by omega), ← hinv]; grind
        · have s1 := SD.1 h3; have hzok := HW.ok
          have k3 : (j : Int).toNat * 1 = j := by omega
          clear HW hval hR2 SD; refine Q1 (Qz (Qx fun K hK => ?_)); refine Qq Y Y Y (Qq Y Y Y (Qq Y Y Y (Xu (la - n + 1) Y Y Y (by simp; omega) Y sNat (by omega) (by omega) Y ?_))); rw [k3]
          refine XY Y Y Y Y Y zInt (by simp [Ent.cs]; omega) ?_
          simp only [Ent.setc, Z8]; refine Qj (hK _ _ (Qz ?_)); clear hK K; refine Qx (fun K hK => ?_); refine Qq Y Y Y (Qk (isub (by omega) (by omega)) Y Y Y Y ?_); refine Qv Y Y Y (Qj (hK _ _ (Q4 ?_))); clear hK K; refine Q8 (j, zs, qs.set j gg) (by dsimp only; omega) ⟨by dsimp only; omega, by dsimp only; omega, hzok, ?_, by simp [hql], hqok.set _ (by simp only [BB]; omega), ?_, ?_⟩ (by exact QX Y ⟨rfl, rfl, rfl, rfl, rfl, rfl, rfl, rfl, trivial⟩)
          all_goals dsimp only
          · omega
          · intro p hp; rw [getD_set (by omega), if_neg (by omega)]; exact hqz p (by omega)
          · rw [s1, val_set (by omega), hqz j (by omega), ← hinv]; grind
  · have hJ0 : J = 0 := by omega
    subst hJ0
    have hb0 : 0 < b := by
      rcases Nat.eq_zero_or_pos b with h0 | h0
      · subst h0; rw [limbs_zero] at hN; simp at hN; omega
      · exact h0
    rw [Int.pow_zero, Int.mul_one] at hult; have FV := fin_val (k := k) (a := a) hb0 (Yk huok) (by rw [← hVv]; exact hult) (by rw [← hVv, ← hUv]; exact hinv)
    have hVn : val V < BB ^ n := by
      have e := val_of_zeros (xs := V) (p := n) (fun p hp => by
        rcases Nat.eq_or_lt_of_le hp with rfl | hp
        · exact hst.1
        · exact getD_ge (by omega))
      rw [e]; exact (YJ hVok n).2
    have ht := trim_take (n := n) huok (by omega); rw [FV.2, Int.toNat_natCast] at ht
    have hqs : trimL qs = limbs (a / b) := by rw [Zw hqok, FV.1, Int.toNat_natCast]
    have hrl : (limbs (a % b * 2 ^ k)).length ≤ n := by rw [← ht]; exact Nat.le_trans (trim_len _) (by simp; omega)
    have hsh := shr_limbs (a % b) k hk30; have hsl := shrL_len k (limbs (a % b * 2 ^ k)); have hrok := X2 (a % b * 2 ^ k); have hsg := shrL_get k (limbs (a % b * 2 ^ k)); clear hfl hinv hult hUv hVv hbn htop; refine Zi 0 _ Y (Zz _ _) noBor_sub (Qs (Qz (Qw (Qx fun K hK => ?_)))); refine Qq Y Y Y (Qq Y Y Y (Ops.cutHi Y Y Y sNat (by omega) (by rw [List.length_map]; omega) Y ?_)); rw [← List.map_take, eN]
    refine QW gotrim (trim_ok _ (by simp; omega)) Y Y Y Y ?_
    rw [ht]; generalize limbs (a % b * 2 ^ k) = rs at *; generalize shrL k rs = ss at *; refine Qv Y Y Y (Qj (hK _ _ (Qz (Qw ?_)))); clear hK K; refine Qx (fun K hK => ?_); refine Qq Y Y Y (Qb Y Y sNat.und (List.length_map ..) Y (Ops.make 0 rs.length Y Y Y Y sNat (by omega) (by omega) Y Y Y ?_)); rw [ints_made]; refine Qv Y Y Y (Qj (hK _ _ (Qz (Qw (Qw ?_))))); clear hK K; refine Qx (fun K hK => ?_); refine Qq Y Y Y (Qb Y Y sNat.und (List.length_map ..) Y (Qk (isub (by omega) (by omega)) Y Y Y Y ?_)); refine Qv Y Y Y (Qj (hK _ _ (Qz (Q5 ?_)))); clear hK K
    refine Xx (α := Nat × List Int) (fun s => s.1 ≤ rs.length ∧ s.2.length = rs.length ∧ (∀ p, s.1 ≤ p → s.2.getD p 0 = ss.getD p 0))
      (fun s => [(10, .ct (intC k)), (13, .own 2), (21, .ct (intsC rs)), (22, .own 0), (23, .ct (intC ((s.1 : Int) - 1)))])
      (fun s => [(0, .row 3 1 (ints s.2)), (2, .row 3 1 (ints qs)), (1, .row 3 1 (ints V))])
      (fun s => s.1) (rs.length, List.replicate rs.length 0) ⟨Nat.le_refl _, by simp, ?_⟩ (by exact QX Y ⟨rfl, rfl, rfl, rfl, rfl, trivial⟩) ?_
    · intro p hp; dsimp only at hp ⊢; rw [getD_ge (by simp; omega), getD_ge (by omega)]
    rintro ⟨J, zs⟩ ⟨hJ, hzl, hz⟩
    dsimp only at hJ hzl hz ⊢; refine Qw (Qw (Qx fun K hK => ?_)); refine Qq Y Y Y (Qk igeq Y Y Y Y (Qj (hK _ _ (Qz ?_)))); clear hK K; refine Q2 Y (fun h => ?_) (fun h => ?_)
    · obtain ⟨i, rfl⟩ : ∃ i, J = i + 1 := ⟨J - 1, by omega⟩
      have ej : (((i + 1 : Nat) : Int) - 1) = (i : Int) := by omega
      rw [ej]; have d1 := hrok.get i; have d2 := hrok.get (i + 1); simp only [BB] at d1 d2; have k1 : (i : Int).toNat = i := Int.toNat_natCast i
      have k2 : (i : Int).toNat * 1 = i := by omega
      have k3 : ((i : Int) + 1).toNat = i + 1 := by omega
      refine Q1 (Qz (Qw (Q5 ?_))); refine Xw mixed 16 (.p 0 (.p 1 (.p 2 (.p 3 (.p 4 (.p 7 (.p 8 (.p 9 (.p 12 (.f 10 (.m 5 (.p 6 (.p 11 (.p 13 (.p 14 (.p 15 (.a 16 .done))))))))))))))))) (by kernel_rfl) (fun K hK => ?_); refine Qq Y Y Y (Qq Y Y Y (Qq Y Y Y (Qq Y Y Y (Qk (iadd (by omega) (by omega)) Y Y Y Y ?_)))); refine Qq Y Y Y (Qq Y Y Y (Qh Y Y Y sNat (by omega) (X9 (by omega) (by omega)) Y ?_)); refine Qq Y Y Y (XQ Y Y Y lInt Y ?_); rw [k1]
      refine QW goat (at_ok rs _ (by omega)) Y Y Y Y ?_
      rw [k3]
      refine Qk (ishl30 (by omega) (by omega)) Y Y Y Y ?_
      skip
      refine Qk (ior30 (by omega) (by omega) (by omega) (by omega)) Y Y Y Y ?_
      refine Qk (ishr k Y (by omega)) Y Y Y Y ?_
      refine Qk iand30 Y Y Y Y (Xu rs.length Y Y Y (by simp; omega) Y sNat (by omega) (by omega) Y ?_); rw [k2]
      refine XY Y Y Y Y Y zInt (by simp [Ent.cs]; omega) ?_
      simp only [Ent.setc, Z8]; refine Qj (hK _ _ (Qz ?_)); clear hK K; refine Qx (fun K hK => ?_); refine Qq Y Y Y (Qk (isub (by omega) (by omega)) Y Y Y Y ?_); refine Qv Y Y Y (Qj (hK _ _ (Q4 ?_))); clear hK K; refine Q8 (i, _) (by dsimp only; omega) ⟨by dsimp only; omega, ?_, ?_⟩ (by exact QX Y ⟨rfl, rfl, rfl, rfl, rfl, trivial⟩)
      · simp [hzl]
      · intro p hp; dsimp only at hp ⊢; rw [getD_set (by omega)]; split
        · rename_i e; subst e; exact (hsg i (by omega)).symm
        · exact hz p (by omega)
    · have hJ0 : J = 0 := by omega
      subst hJ0
      have hzs : zs = ss := by
        apply List.ext_getElem (by omega)
        intro p h1 h2; have := hz p (Nat.zero_le _)
        simpa [List.getD_eq_getElem?_getD, h1, h2] using this
      subst hzs; refine Zi 0 _ Y (Zz _ _) noBor_sub (Zi 2 _ Y (Zz _ _) noBor_sub (Qs (Qz (Qw (Qx fun K hK => ?_))))); refine Qq Y Y Y (QW gotrim (trim_ok _ (by omega)) Y Y Y Y ?_); rw [hqs]; refine Qq Y Y Y (QW gotrim (trim_ok _ (by omega)) Y Y Y Y ?_); rw [hsh]; refine Qv Y Y Y (Qv Y Y Y (Qv Y Y Y (Qj (hK _ _ (Qz (Q0 ?_)))))); clear hK K; refine QU [_, _, _] rfl (Qu Y (Qu Y (Qu Y QQ))) Y Y
set_option maxHeartbeats 2000000 in
theorem DivMod_less (a b : Nat) (hab : a < b) (hl : (limbs b).length ≤ 256) : Ok Tryz.prog 138 [natC a, natC b] (.fr (tupT [natC (a / b), natC (a % b), intC 0])) := by
  have hla : (limbs a).length ≤ (limbs b).length := X8 (by omega)
  have hlb : 0 < (limbs b).length := by
    rcases Nat.eq_zero_or_pos (limbs b).length with h | h
    · have := Zl (List.eq_nil_of_length_eq_zero h); omega
    · exact h
  refine Ok.enter Tryz.func138 J _ Tryz.ntmps138 J ?_
  intro S w; refine Qw (Qx fun K hK => ?_); refine Qv J J J (Qv J J J (Qv J J J (Qj (hK _ _ (Qz (Qw ?_)))))); clear hK K; refine Qx (fun K hK => ?_); refine Qq J J J (QW gotrim (trim_ok _ (by omega)) J J J J ?_); rw [trim_of_limbs]; refine Qv J J J (Qj (hK _ _ (Qz (Qw ?_)))); clear hK K; refine Qx (fun K hK => ?_); refine Qq J J J (Qb J J sNat.und (List.length_map ..) J (Qv J J J (Qj (hK _ _ (Qz (Qw (Q5 (Qw ?_)))))))); clear hK K; refine Qx (fun K hK => ?_); refine Qq J J J (Qk ieql J J J J (Qv J J J (Qj (hK _ _ (Qz ?_))))); clear hK K; refine Q2 J (fun h => by exfalso; omega) (fun h => ?_); clear h; refine Qw (Qx fun K hK => ?_); refine Qq J J J (Qq J J J (QW goCompare (Compare_ok a b (by omega) (by omega)) J J J J ?_)); refine Qk ilss J J J J (Qv J J J (Qj (hK _ _ (Qz ?_)))); clear hK K; refine Q2 J (fun h => ?_) (fun h => ?_)
  · refine Qw (Qx fun K hK => ?_); refine Qq J J J (QW goClone (Clone_ok _ (by omega)) J J J J ?_); refine Qv J J J (Qv J J J (Qv J J J (Qj (hK _ _ (Qz (Q0 (Q3 (QZ ?_)))))))); clear hK K; rw [Nat.div_eq_of_lt hab, Nat.mod_eq_of_lt hab, natC_zero]; refine QU [_, _, _] rfl (AllRes.nilS 1 J (Qu J (Qu J QQ))) J J
  · exfalso; apply h; rw [Xt, if_pos (by omega)]; decide
theorem DivMod_ok (a b : Nat) (hb : 0 < b) (hla : (limbs a).length ≤ 256) (hlb : (limbs b).length ≤ 256) : Ok Tryz.prog 138 [natC a, natC b] (.fr (tupT [natC (a / b), natC (a % b), intC 0])) := by
  by_cases h : a < b
  · exact DivMod_less a b h hlb
  · by_cases h2 : 2 ≤ (limbs b).length
    · exact DivMod_big a b h2 (by omega) hla
    · refine DivMod_small a b hb ?_ hla
      have := Xi (n := b) (k := 1) (by omega)
      simpa using this
set_option maxHeartbeats 2000000 in
theorem Gcd_ok (a b : Nat) (hla : (limbs a).length ≤ 256) (hlb : (limbs b).length ≤ 256) : Ok Tryz.prog 137 [natC a, natC b] (natC (Nat.gcd a b)) := by
  refine Ok.enter Tryz.func137 J _ Tryz.ntmps137 J ?_
  intro S w; refine Qw (Qx fun K hK => ?_); refine Qv J J J (Qj (hK _ _ (Qz (Qw (Qw ?_))))); clear hK K; refine Qx (fun K hK => ?_); refine Qq J J J (QW goClone (Clone_ok _ (by omega)) J J J J ?_); refine Qq J J J (QW goClone (Clone_ok _ (by omega)) J J J J ?_); refine Qv J J J (Qv J J J (Qj (hK _ _ (Qz (Q5 ?_))))); clear hK K
  refine Xx (α := Nat × Nat) (fun s => (limbs s.1).length ≤ 256 ∧ (limbs s.2).length ≤ 256 ∧ Nat.gcd s.1 s.2 = Nat.gcd a b)
    (fun s => [(0, .ct (natC s.1)), (1, .ct (natC s.2))]) (fun _ => []) (fun s => s.2) (a, b) ⟨hla, hlb, rfl⟩ (by exact QX J ⟨rfl, rfl, trivial⟩) ?_
  rintro ⟨p, q⟩ ⟨hp, hq, hg⟩
  dsimp only at hq hp hg ⊢; refine Qw (Qw (Qx fun K hK => ?_)); refine Qq J J J (Qb J J sNat.und (List.length_map ..) J (Qk igtr J J J J (Qj (hK _ _ (Qz ?_))))); clear hK K; refine Q2 J (fun h => ?_) (fun h => ?_)
  · have hq0 : 0 < q := by
      rcases Nat.eq_zero_or_pos q with h0 | h0
      · subst h0; rw [limbs_zero] at h; simp at h
      · exact h0
    refine Q1 (Qz (Q5 (Qw (Qx fun K hK => ?_)))); refine Qq J J J (Qq J J J (QW goDivMod (DivMod_ok p q hq0 hp hq) J J J J (Qq J J J (Q9 J J J J (Q9 J J J J (Q9 J J J J (Qv J J J (Qv J J J (Qv J J J (Qj (hK _ _ (Qz (Qw (Qw ?_)))))))))))))); clear hK K; refine Qx (fun K hK => ?_); refine Qq J J J (Qk ineq J J J J (Qj (hK _ _ (Qz (Xv J (Q1 (Qz ?_))))))); clear hK K; refine Qx (fun K hK => ?_); refine Qq J J J (Qq J J J (Qv J J J (Qv J J J (Qj (hK _ _ (Qd (Q4 ?_))))))); clear hK K; have hm := Nat.mod_lt p hq0; refine Q8 (q, p % q) hm ⟨hq, ?_, ?_⟩ (by exact QX J ⟨rfl, rfl, trivial⟩)
    · have := X8 (Nat.le_of_lt hm); dsimp only; omega
    · dsimp only; rw [← hg, Nat.gcd_comm, ← Nat.gcd_rec, Nat.gcd_comm]
  · have hq0 : q = 0 := Zl (List.eq_nil_of_length_eq_zero (by omega))
    have e : p = Nat.gcd a b := by rw [← hg, hq0, Nat.gcd_zero_right]
    rw [← e]; refine Qs (Qz (Qw (Qx fun K hK => ?_))); refine Qq J J J (Qv J J J (Qj (hK _ _ (Qz (Q0 ?_))))); clear hK K; refine QU [_] rfl (Qu J QQ) J J
set_option maxHeartbeats 2000000 in
theorem reduced_ok (neg : Bool) (a b : Nat) (h0 : 0 < b) (hla : (limbs a).length ≤ 256) (hlb : (limbs b).length ≤ 256) : Ok Tryz.prog 100 [boolC neg, natC a, natC b] (fracC (redF neg a b)) := by
  have hg0 : 0 < Nat.gcd a b := Nat.gcd_pos_of_pos_right _ h0; have hg1 : Nat.gcd a b ≤ b := Nat.gcd_le_right _ h0; have hlg := X8 hg1
  refine Ok.enter Tryz.func100 J _ Tryz.ntmps100 J ?_
  intro S w; have e0 : redF neg a b = ⟨neg && decide (a / Nat.gcd a b ≠ 0), a / Nat.gcd a b, b / Nat.gcd a b⟩ := rfl; rw [e0]; clear e0; have h1 := Gcd_ok a b hla hlb; generalize Nat.gcd a b = g at *; refine Qw (Qx fun K hK => ?_); refine Qg 0 J J zvFrac J J J (Qj (hK _ _ (Qz (Qw ?_)))); clear hK K; refine Qx (fun K hK => ?_); refine Qq J J J (Qq J J J (QW goGcd h1 J J J J (Qv J J J (Qj (hK _ _ (Qz (Qw ?_))))))); clear hK K; refine Qx (fun K hK => ?_); refine Qq J J J (Qq J J J (QW goDivMod (DivMod_ok a g hg0 hla (by omega)) J J J J ?_)); refine Qq J J J (Q9 J J J J (Q9 J J J J (Q9 J J J J (Qv J J J (Qv J J J (Qv J J J (Qj (hK _ _ (Qz (Qw ?_)))))))))); clear hK K; refine Qx (fun K hK => ?_); refine Qq J J J (Qq J J J (QW goDivMod (DivMod_ok b g hg0 hlb (by omega)) J J J J ?_)); refine Qq J J J (Q9 J J J J (Q9 J J J J (Q9 J J J J (Qv J J J (Qv J J J (Qv J J J (Qj (hK _ _ (Qz (Qw ?_)))))))))); clear hK K; refine Qx (fun K hK => ?_); refine Qq J J J (Qq J J J (X3 32 J (fun h => ?_) (fun h => ?_)))
  · refine Qq J J J (Qb J J sNat.und (List.length_map ..) J (Qk igtr J J J J (QJ J J J J (Qq J J J (Qq J J J (Qi J Za J (.one J J J J (.one J J J J (.one J J J J .nil))) J (Qa 3 J J J J J szFrac J J (Qj (hK _ _ (Qz (Q0 ?_))))))))))); clear hK K; refine QU [_] rfl (Qc (n := 3) J J Xa J QQ) (by rw [← limbs_len_posI, h]; rfl) J
  · refine Qy J J J (Qy J J J (Qy J J J (QK J J J J (Qq J J J (Qq J J J (Qi J Za J (.one J J J J (.one J J J J (.one J J J J .nil))) J (Qa 3 J J J J J szFrac J J (Qj (hK _ _ (Qz (Q0 ?_))))))))))); clear hK K; refine QU [_] rfl (Qc (n := 3) J J Xa J QQ) (by rw [h]; rfl) J
attribute [local irreducible] OkB OkL OkM OkN OkT
set_option maxHeartbeats 2000000 in
theorem FFrom_gen (n d : Int) (h1 : -9223372036854775808 ≤ n) (h2 : n ≤ 9223372036854775807) (h3 : -9223372036854775808 ≤ d) (h4 : d ≤ 9223372036854775807) (h0 : d ≠ 0) : Ok Tryz.prog 54 [intC n, intC d] (.fr (tupT [ratC (Rat.divInt n d), intC 0])) := by
  have hl : (limbs n.natAbs).length ≤ 3 := XW (k := 3) (by omega); have hl2 : (limbs d.natAbs).length ≤ 3 := XW (k := 3) (by omega); rw [show ratC (Rat.divInt n d) = fracC (redF (decide (n < 0) != decide (d < 0)) n.natAbs d.natAbs) from by rw [from_redF n d h0]]
  refine Ok.enter Tryz.func54 J _ Tryz.ntmps54 J ?_
  intro S w; refine Qw (Qx fun K hK => ?_); refine Qg 0 J J zvFrac J J J (Qv J J J (Qj (hK _ _ (Qz (Qw (Qw ?_)))))); clear hK K; refine Qx (fun K hK => ?_); refine Qq J J J (Qk ieql J J J J (Qj (hK _ _ (Qz ?_)))); clear hK K; refine Q2 J (fun h => absurd h h0) (fun h => ?_); refine Q1 (Qz (Qw (Qx fun K hK => ?_))); refine Qq J J J (Qk ilss J J J J (Qq J J J (Qk ilss J J J J (Ops.bne J J J uBool J ?_)))); rw [dne]; refine Qq J J J (QW gomagnitude (magnitude_ok n h1 h2) J J J J (Qq J J J (QW gomagnitude (magnitude_ok d (by omega) (by omega)) J J J J ?_)))
  refine QW goreduced (reduced_ok _ n.natAbs d.natAbs (by omega) (by omega) (by omega)) J J J J ?_
  refine Qa 3 J J J J J szFrac J J (Qv J J J (Qj (hK _ _ (Qz (Q0 ?_))))); clear hK K; refine QU [_, _] rfl (Qc (n := 3) J J Xa J (Qu J QQ)) J J
set_option maxHeartbeats 8000000 in
theorem Rate_gen (c : Cn) (h1 : -9223372036854775808 ≤ c.lo ∧ c.lo < 9223372036854775808) (h2 : -9223372036854775808 ≤ c.hi ∧ c.hi < 9223372036854775808) (h3 : -9223372036854775808 ≤ c.se ∧ c.se < 9223372036854775808) : Ok Tryz.prog 19 [cnC c] (rateC c) := by
  have e : rateC c = if c.lo < 0 ∨ c.hi < c.lo ∨ c.se < c.hi ∨ c.se < 1 then .fr (tupT [fracC frZ, fracC frZ, intC 1]) else .fr (tupT [ratC (Rat.divInt c.lo c.se), ratC (Rat.divInt c.hi c.se), intC 0]) := rfl
  generalize rateC c = out at e ⊢
  refine Ok.enter Tryz.func19 J _ Tryz.ntmps19 J ?_
  intro S w0; refine Qw (Qx (fun K hK => ?_)); refine Xz 0 J J J J J J J (Qg 1 J J zvFrac J J J (Qg 2 J J zvFrac J J J (Qv J J J (Qj (hK _ _ (Qz (Qw (Qw ?_)))))))); clear hK K; refine Qx (fun K hK => ?_); refine QV J J J fCn2 J (QY J J J J J lInt J (Qk ilss J J J J (Qq J J J (Q7 8 J (fun g1 => ?_) (fun g1 => ?_)))))
  · rw [if_pos (.inl g1)] at e; refine Qy J J J (Qy J J J (Qy J J J (Qy J J J (Qy J J J (QJ J J J J (Qq J J J (Qy J J J (Qy J J J (Qy J J J (Qy J J J (Qy J J J (QJ J J J J (Qq J J J (Qy J J J (Qy J J J (Qy J J J (QJ J J J J (Qj (hK _ _ (Qz (Qp J (Qw ?_)))))))))))))))))))))); clear hK K; refine Qx (fun K hK => ?_); refine Qi J Za J .nil J (Qi J Za J .nil J (Qa 3 J J J J J szFrac J J (Qa 3 J J J J J szFrac J J (Qv J J J (Qj (hK _ _ (Qz (Q0 (QZ ?_))))))))); clear hK K; refine QU [_, _, _] rfl (Xj (Yz (ds := [boolC false, intsC [], intsC []]) (by exact ⟨ZJ, X5, X5, trivial⟩)) (Qc (n := 3) J J Xa J (Xj (Yz (ds := [boolC false, intsC [], intsC []]) (by exact ⟨ZJ, X5, X5, trivial⟩)) (Qc (n := 3) J J Xa J (Qu J QQ))))) (by rw [e]; show CT.fr (tupT [.fr (aggT [boolC false, intsC (limbs 0), intsC (limbs 0)]), .fr (aggT [boolC false, intsC (limbs 0), intsC (limbs 0)]), intC 1]) = _; rw [limbs_zero]; rfl) J
  refine QV J J J fCn2 J (QY J J J J J lInt J (QV J J J fCn3 J (QY J J J J J lInt J (Qk igtr J J J J (QK J J J J (Qq J J J (Q7 15 J (fun g2 => ?_) (fun g2 => ?_))))))))
  · rw [if_pos (.inr (.inl g2))] at e; refine Qy J J J (Qy J J J (Qy J J J (Qy J J J (Qy J J J (QJ J J J J (Qq J J J (Qy J J J (Qy J J J (Qy J J J (QJ J J J J (Qj (hK _ _ (Qz (Qp J (Qw ?_))))))))))))))); clear hK K; refine Qx (fun K hK => ?_); refine Qi J Za J .nil J (Qi J Za J .nil J (Qa 3 J J J J J szFrac J J (Qa 3 J J J J J szFrac J J (Qv J J J (Qj (hK _ _ (Qz (Q0 (QZ ?_))))))))); clear hK K; refine QU [_, _, _] rfl (Xj (Yz (ds := [boolC false, intsC [], intsC []]) (by exact ⟨ZJ, X5, X5, trivial⟩)) (Qc (n := 3) J J Xa J (Xj (Yz (ds := [boolC false, intsC [], intsC []]) (by exact ⟨ZJ, X5, X5, trivial⟩)) (Qc (n := 3) J J Xa J (Qu J QQ))))) (by rw [e]; show CT.fr (tupT [.fr (aggT [boolC false, intsC (limbs 0), intsC (limbs 0)]), .fr (aggT [boolC false, intsC (limbs 0), intsC (limbs 0)]), intC 1]) = _; rw [limbs_zero]; rfl) J
  refine QV J J J fCn3 J (QY J J J J J lInt J (QV J J J fCn1 J (QY J J J J J lInt J (Qk igtr J J J J (QK J J J J (Qq J J J (Q7 22 J (fun g3 => ?_) (fun g3 => ?_))))))))
  · rw [if_pos (.inr (.inr (.inl g3)))] at e; refine Qy J J J (Qy J J J (Qy J J J (QJ J J J J (Qj (hK _ _ (Qz (Qp J (Qw ?_)))))))); clear hK K; refine Qx (fun K hK => ?_); refine Qi J Za J .nil J (Qi J Za J .nil J (Qa 3 J J J J J szFrac J J (Qa 3 J J J J J szFrac J J (Qv J J J (Qj (hK _ _ (Qz (Q0 (QZ ?_))))))))); clear hK K; refine QU [_, _, _] rfl (Xj (Yz (ds := [boolC false, intsC [], intsC []]) (by exact ⟨ZJ, X5, X5, trivial⟩)) (Qc (n := 3) J J Xa J (Xj (Yz (ds := [boolC false, intsC [], intsC []]) (by exact ⟨ZJ, X5, X5, trivial⟩)) (Qc (n := 3) J J Xa J (Qu J QQ))))) (by rw [e]; show CT.fr (tupT [.fr (aggT [boolC false, intsC (limbs 0), intsC (limbs 0)]), .fr (aggT [boolC false, intsC (limbs 0), intsC (limbs 0)]), intC 1]) = _; rw [limbs_zero]; rfl) J
  refine QV J J J fCn1 J (QY J J J J J lInt J (Qk ilss J J J J (QK J J J J (Qj (hK _ _ (Qz ?_)))))); clear hK K; refine Q2 J (fun g4 => ?_) (fun g4 => ?_)
  · rw [if_pos (.inr (.inr (.inr g4)))] at e; refine Qw (Qx fun K hK => ?_); refine Qi J Za J .nil J (Qi J Za J .nil J (Qa 3 J J J J J szFrac J J (Qa 3 J J J J J szFrac J J (Qv J J J (Qj (hK _ _ (Qz (Q0 (QZ ?_))))))))); clear hK K; refine QU [_, _, _] rfl (Xj (Yz (ds := [boolC false, intsC [], intsC []]) (by exact ⟨ZJ, X5, X5, trivial⟩)) (Qc (n := 3) J J Xa J (Xj (Yz (ds := [boolC false, intsC [], intsC []]) (by exact ⟨ZJ, X5, X5, trivial⟩)) (Qc (n := 3) J J Xa J (Qu J QQ))))) (by rw [e]; show CT.fr (tupT [.fr (aggT [boolC false, intsC (limbs 0), intsC (limbs 0)]), .fr (aggT [boolC false, intsC (limbs 0), intsC (limbs 0)]), intC 1]) = _; rw [limbs_zero]; rfl) J
  rw [if_neg (fun h => h.elim g1 (fun h => h.elim g2 (fun h => h.elim g3 g4)))] at e; have hF1 := FFrom_gen c.lo c.se (by omega) (by omega) (by omega) (by omega) (by omega); have hF2 := FFrom_gen c.hi c.se (by omega) (by omega) (by omega) (by omega) (by omega); refine Q1 (Qz (Qw (Qx fun K hK => ?_))); refine QV J J J fCn2 J (QY J J J J J lInt J (QV J J J fCn1 J (QY J J J J J lInt J (QW goFFrom hF1 J J J J (Qq J J J (Q9 J J J J (Q9 J J J J (Qa 3 J J J J J szFrac J J (Qj (hK _ _ (Qz (Qw ?_)))))))))))); clear hK K; refine Qx (fun K hK => ?_); refine QV J J J fCn3 J (QY J J J J J lInt J (QV J J J fCn1 J (QY J J J J J lInt J (QW goFFrom hF2 J J J J (Qq J J J (Q9 J J J J (Q9 J J J J (Qa 3 J J J J J szFrac J J (Qj (hK _ _ (Qz (Qw ?_)))))))))))); clear hK K; refine Yq mixed [2, 3] (.f 0 (.m 1 (.a 2 (.a 3 (.p 4 .done) .non) .non) (.a 2 (.f 1 (.a 3 (.p 4 .done) .non)) .non))) (by kernel_rfl) (fun K hK => ?_); refine XU (Q6 (n := 3) J J J J J Xa J (Qj (X1 ?_ ?_)))
  · refine Q6 (n := 3) J J J J J Xa J (Qj (Xk ?_ Qf)); refine Qa 3 J J J J J szFrac J J (Qj (Xk ?_ Qf)); refine Qa 3 J J J J J szFrac J J (Qj (Qo (Qv J J J (Qj (Xy (hK _ _ ?_)))))); refine Qz (Q0 ?_); refine QU [_, _, _] rfl (Qc (n := 3) J J Xa J (Qc (n := 3) J J Xa J (Qu J QQ))) (by rw [e]; rfl) J
  refine Xk ?_ Qf
  refine Qa 3 J J J J J szFrac J J (Qj (XU (Q6 (n := 3) J J J J J Xa J (Qj (Xk ?_ Qf))))); refine Qa 3 J J J J J szFrac J J (Qj (Qo (Qv J J J (Qj (Xy (hK _ _ ?_)))))); refine Qz (Q0 ?_); refine QU [_, _, _] rfl (Qc (n := 3) J J Xa J (Qc (n := 3) J J Xa J (Qu J QQ))) (by rw [e]; rfl) J
theorem keyWrE : KeyT Tryz.prog 37 wrE := keyWr
theorem goAll : InGo Tryz.prog 17 := InGo.of Tryz.func17 rfl (by decide)
set_option maxHeartbeats 16000000 in
theorem All_ok (l : List Rs) (hl : l.length ≤ 10000) (n : Int) : Ok Tryz.prog 17 [rssC l, intC n] (.fr (tupT [cnsC (alO l n).1, intC (alO l n).2])) := by
  have hC := check_ok l hl; have hT := Travel_ok l hl; have hO := Order_ok l hl
  have hW := fun v hv r al hal => Way_ok l hl v hv r al hal
  have hwl := wayF_len l
  have e : alO l n = if n < 0 ∨ 1048576 < n then ([], 1) else if ¬ chkF l = 0 then ([], chkF l)
    else ((sd cmpW ((tickF (wayF l) (sd cmpR (l.filter okR))).map (·.1))).map (cnOf (tickF (wayF l) (sd cmpR (l.filter okR))) n), 0) := rfl
  have hol : (sd cmpR (l.filter okR)).length ≤ 10000 := by
    have := Yv cmpR (l.filter okR); have := List.length_filter_le okR l; omega
  generalize chkF l = c at hC e; generalize wayF l = wy at hW e hwl; generalize sd cmpR (l.filter okR) = o at hO e hol; generalize alO l n = out at e ⊢; generalize owF l = om at hT hW
  refine Ok.enter Tryz.func17 J _ Tryz.ntmps17 J ?_
  intro S w0; refine Qw (Qx fun K hK => ?_); refine Qv J J J (Qv J J J (Qj (hK _ _ (Qz (Qw (Qw ?_)))))); clear hK K; refine Qx (fun K hK => ?_); refine Qq J J J (Qk ilss J J J J (Qq J J J (Q7 20 J (fun h1 => ?_) (fun h1 => ?_))))
  · rw [if_pos (.inl h1)] at e; refine Qy J J J (Qy J J J (QJ J J J J (Qj (hK _ _ (Qz (Qp J (Qw ?_))))))); clear hK K; refine Qx (fun K hK => ?_); refine Qv J J J (Qv J J J (Qj (hK _ _ (Qz (Q0 (QZ ?_)))))); clear hK K; refine QU [_, _] rfl (Xj X5 (Qu J (Qu J QQ))) (by rw [e]; rfl) J
  refine Qq J J J (Qk igtr J J J J (QK J J J J (Qj (hK _ _ (Qz ?_))))); clear hK K; refine Q2 J (fun h2 => ?_) (fun h2 => ?_)
  · rw [if_pos (.inr h2)] at e; refine Qw (Qx fun K hK => ?_); refine Qv J J J (Qv J J J (Qj (hK _ _ (Qz (Q0 (QZ ?_)))))); clear hK K; refine QU [_, _] rfl (Xj X5 (Qu J (Qu J QQ))) (by rw [e]; rfl) J
  rw [if_neg (fun h => h.elim h1 h2)] at e; refine Q1 (Qz (Qw (Qw (Qx fun K hK => ?_)))); refine Qq J J J (QW gocheck hC J J J J (Qv J J J (Qj (hK _ _ (Qz (Qw ?_)))))); clear hK K; refine Qx (fun K hK => ?_); refine Qq J J J (Qk ineq J J J J (Qj (hK _ _ (Qz ?_)))); clear hK K; refine Q2 J (fun h3 => ?_) (fun h3 => ?_)
  · rw [if_pos h3] at e; refine Qw (Qx fun K hK => ?_); refine Qq J J J (Qv J J J (Qv J J J (Qj (hK _ _ (Qz (Q0 (QZ ?_))))))); clear hK K; refine QU [_, _] rfl (Xj X5 (Qu J (Qu J QQ))) (by rw [e]; rfl) J
  rw [if_neg h3] at e; refine Q1 (Qz (Qw (Qx fun K hK => ?_))); refine Qq J J J (Ops.callNew 8 gotravel hT J J J (fun _ h => h.elim) J J J (fun v hv => ?_)); refine Qg 1 J J zvTrav J J J (Qa 2 J J J J (by show (true && (Value.oneCell' v && true)) = true; rw [hv]; rfl) szTrav J J ?_); refine Qj (hK _ _ (Qz (Qw ?_))); clear hK K; refine Qx (fun K hK => ?_); refine Ops.mkMap 5 J J J J J (fun va hva => ?_); refine Qv J J J (Qj (hK _ _ (Qz (Qw (Qw ?_))))); clear hK K; refine Qx (fun K hK => ?_); refine Qq J J J (ZQ 3 goOrder hO J J J J J J (Zx 3 _ J (rss_frozen _ _) noBor_sub (Qb J J sRes.und (List.length_map ..) J (Qq J J J (Qj (hK _ _ (Qz (Q5 ?_)))))))); clear hK K
  refine Xx (α := Nat × KnM) (fun q => q.1 ≤ o.length ∧ knOk l q.2)
    (fun q => [(1, .ct (intC n)), (7, .own 1), (8, .ct (.ex va)), (33, .ct (rssC o)), (34, .ct (intC o.length)), (35, .ct (intC q.1))])
    (fun q => [(8, .mpx v (knM q.2)), (5, .mpx va (alKv (tickF wy (o.take q.1)))), (1, .box 94 [.fr (mapT (owM om)), .ex v])])
    (fun q => o.length - q.1) (0, []) ⟨Nat.zero_le _, fun _ _ h => by cases h⟩ (Entails.front 8 _ J <| by exact QX J ⟨rfl, rfl, rfl, rfl, rfl, rfl, trivial⟩) ?_
  intro ⟨i, m⟩ ⟨hi, hm⟩
  try dsimp only at hi hm ⊢
  refine Qw (Qx fun K hK => ?_); refine Qk ilss J J J J (Qj (hK _ _ (Qz (Qw ?_)))); clear hK K; refine Q2 J (fun h => ?_) (fun h => ?_)
  · have e2 : (i : Int).toNat = i := Int.toNat_natCast i; have hs : tickF wy (o.take (i + 1)) = tickR wy (tickF wy (o.take i)) (o.getD i rs0) := YY (tickR wy) _ (by omega)
    have hbd := fun w => tick_bound wy w (o.take i)
    have htl : (o.take i).length ≤ 10000 := by rw [List.length_take]; omega
    refine Q1 (Qz (Qw (Q5 (Qw (Qx fun K hK => ?_)))))
    refine Qh J J J sRes (by omega) (Xd (by omega) (by omega)) J ?_
    refine XX (n := 17) J J J lRes J J (Qg 0 J J zvRes J J J (Qa 17 J J J J J Z4 J J (Qj (hK _ _ (Qz (Qw ?_)))))); clear hK K; refine Qx (fun K hK => ?_); rw [e2]; generalize o.getD i rs0 = x at hs; have hwx := hwl x; generalize tickF wy (o.take i) = M at hs hbd ⊢; refine Ops.mkMap 4 J J J J J (fun vc hvc => ?_); refine Qv J J J (Qj (hK _ _ (Qz (Qw ?_)))); clear hK K; refine Qx (fun K hK => ?_); refine Q6 (n := 2) J J J J J lTrav J (Q6 (n := 17) J J J J J lRes J (Ops.call1 (As := [travC om v, rsC x]) 8 goway (hW v hv x m hm) J J J (fun _ h => h.elim) J (fun p hp => absurd hp (by simp)) (fun q j hq => by rcases hq with hq | ⟨_, hq⟩ <;> cases hq) (fun m' hm' => ?_))); refine Qb J J sWrs.und (List.length_map ..) J (Qq J J J (Qj (hK _ _ (Qz (Q5 ?_))))); clear hK K
    refine Xx (α := Nat) (fun k => k ≤ (wy x).length)
      (fun k => [(1, .ct (intC n)), (7, .own 1), (8, .ct (.ex va)), (10, .own 0), (11, .ct (.ex vc)), (33, .ct (rssC o)), (34, .ct (intC o.length)), (35, .ct (intC i)), (42, .ct (wrsC (wy x))), (43, .ct (intC (wy x).length)), (44, .ct (intC k))])
      (fun k => [(8, .mpx v (knM m')), (4, .mpx vc (crKv (((wy x).take k).foldl (tickS x.an) (M, [])).2)), (0, .box 35 (rsCs x)), (5, .mpx va (alKv (((wy x).take k).foldl (tickS x.an) (M, [])).1)), (1, .box 94 [.fr (mapT (owM om)), .ex v])])
      (fun k => (wy x).length - k) 0 (Nat.zero_le _) (by exact QX J ⟨rfl, rfl, rfl, rfl, rfl, rfl, rfl, rfl, rfl, rfl, rfl, trivial⟩) ?_
    intro k hk
    try dsimp only at hk ⊢
    refine Qw (Qx fun K hK => ?_); refine Qk ilss J J J J (Qj (hK _ _ (Qz (Qw ?_)))); clear hK K; refine Q2 J (fun h4 => ?_) (fun h4 => ?_); rotate_left
    · have hk' : k = (wy x).length := by omega
      have e4 : (((wy x).take k).foldl (tickS x.an) (M, [])).1 = tickR wy M x := by rw [hk', List.take_length]; rfl
      rw [e4]; refine Qs (Qz (Qx fun K hK => ?_))
      refine Qk (iadd (by omega) (by omega)) J J J J ?_
      refine Qq J J J (Qj (hK _ _ (Q4 ?_))); clear hK K; refine Ql 4 (Ql 0 (Q8 (i + 1, m') (by dsimp only; omega) ⟨by dsimp only; omega, hm'⟩ (by dsimp only; rw [hs]; exact QX J ⟨rfl, rfl, rfl, rfl, rfl, by simp only [Int.natCast_add]; rfl, trivial⟩)))
    have e5 : (k : Int).toNat = k := Int.toNat_natCast k; have hst : ((wy x).take (k + 1)).foldl (tickS x.an) (M, []) = tickS x.an (((wy x).take k).foldl (tickS x.an) (M, [])) ((wy x).getD k wr0) := YY (tickS x.an) _ (by omega)
    have hbs : ∀ w, 0 ≤ ((look1 (((wy x).take k).foldl (tickS x.an) (M, [])).1 w).getD (0, 0)).2 ∧ ((look1 (((wy x).take k).foldl (tickS x.an) (M, [])).1 w).getD (0, 0)).2 ≤ ((look1 (((wy x).take k).foldl (tickS x.an) (M, [])).1 w).getD (0, 0)).1 ∧ ((look1 (((wy x).take k).foldl (tickS x.an) (M, [])).1 w).getD (0, 0)).1 ≤ 10001 := fun w => by
      rw [tickS_look x.an w _ (M, []) (fun _ h => h)]; dsimp only; have h := hbd w; split
      · simp only [Option.getD_some, tickV]
        split <;> omega
      · exact ⟨h.1, h.2.1, by have := h.2.2; omega⟩
    refine Q1 (Qz (Qw (Q5 (Qw (Qx fun K hK => ?_)))))
    refine Qh J J J sWrs (by omega) (wrs_at (by omega) (by omega)) J ?_
    rw [e5]; generalize (wy x).getD k wr0 = w at hst; generalize ((wy x).take k).foldl (tickS x.an) (M, []) = s at hst hbs ⊢; obtain ⟨s1, s2⟩ := s
    have ht : tickS x.an (s1, s2) w = if (look1 s2 w).getD false = true then (s1, s2) else (ins s1 w (tickV x.an ((look1 s1 w).getD (0, 0))), ins s2 w true) := rfl
    rw [ht] at hst; clear ht; dsimp only at hbs ⊢; have hb := hbs w
    have hN : (look1 s2 w).getD false = true ∨ (look1 s2 w).getD false = false := by cases (look1 s2 w).getD false <;> simp
    refine XX (n := 2) J J J Xm J J (Qg 2 J J zvWire J J J (Qa 2 J J J J J szWire J J (Qj (hK _ _ (Qz (Qw (Qw ?_))))))); clear hK K; refine Qx (fun K hK => ?_); refine Qq J J J (Q6 (n := 2) J J J J J Xm J (Ops.lookM (i := 4) (cv := boolC) (enc := wrE) false w J J J J (KeyIs.agg (us := wr2 w) J) uMCr z0Bool (fun _ _ => rfl) keyWrE J ?_)); refine Qj (hK _ _ (Qz ?_)); clear hK K; refine XZ J (fun h5 => ?_) (fun h5 => ?_)
    · rw [if_pos h5] at hst; refine Qs (Qz (Qx fun K hK => ?_))
      refine Qk (iadd (by omega) (by omega)) J J J J ?_
      refine Qq J J J (Qj (hK _ _ (Q4 ?_))); clear hK K; refine Ql 2 (Q8 (k + 1) (by omega) (by omega) (by rw [hst]; exact QX J ⟨rfl, rfl, rfl, rfl, rfl, rfl, rfl, rfl, rfl, rfl, by simp only [Int.natCast_add]; rfl, trivial⟩))
    rw [if_neg (by rw [h5]; decide)] at hst; refine Q1 (Qz (Qw (Qx fun K hK => ?_))); refine Qq J J J (Q6 (n := 2) J J J J J Xm J (XJ (i := 4) (enc := wrE) (cv := boolC) w true J J J (KeyIs.agg (us := wr2 w) J) J uMCr keyWrE (Qj (hK _ _ (Qz (Qw ?_)))))); clear hK K; refine Qx (fun K hK => ?_); refine Qq J J J (Q6 (n := 2) J J J J J Xm J (Ops.lookM (i := 5) (cv := csC) (enc := wrE) (0, 0) w J J J J (KeyIs.agg (us := wr2 w) J) uMAll z0Cs csZ keyWrE J ?_)); generalize (look1 s1 w).getD (0, 0) = cc at hst hb; obtain ⟨c1, c2⟩ := cc; dsimp only at hb; unfold tickV at hst; dsimp only at hst; refine Qg 3 J J zvCs J J J (Qa 2 J J J J J szCs J J (Qj (hK _ _ (Qz (Qw ?_))))); clear hK K; refine Qx (fun K hK => ?_); refine QV J J J fCs0 J (QY J J J J J lInt J (Qk (iadd (by omega) (by omega)) J J J J ?_)); refine QV J J J fCs0 J (XY J J J J J zInt (Nat.le_of_ble_eq_true J) (Qj (hK _ _ (Qz (Qw (Qw ?_)))))); clear hK K; refine Qx (fun K hK => ?_); refine QV J J J fS8 J (QY J J J J J lBool1 J (Qm J J J (Qj (hK _ _ (Qz ?_))))); clear hK K; refine XZ J (fun h6 => ?_) (fun h6 => ?_)
    · rw [if_neg (by simpa using h6)] at hst; refine Qx (fun K hK => ?_); refine QV J J J fCs1 J (QY J J J J J lInt J (Qk (iadd (by omega) (by omega)) J J J J ?_)); refine QV J J J fCs1 J (XY J J J J J zInt (Nat.le_of_ble_eq_true J) (Qj (hK _ _ (Qz ?_)))); clear hK K; refine Qx (fun K hK => ?_); refine Qq J J J (Q6 (n := 2) J J J J J Xm J (Q6 (n := 2) J J J J J lCs J (XJ (i := 5) (enc := wrE) (cv := csC) w (c1 + 1, c2 + 1) J J J (KeyIs.agg (us := wr2 w) J) J uMAll keyWrE (Qj (hK _ _ (Qz ?_)))))); clear hK K; refine Qx (fun K hK => ?_)
      refine Qk (iadd (by omega) (by omega)) J J J J ?_
      refine Qq J J J (Qj (hK _ _ (Q4 ?_))); clear hK K; refine Ql 3 (Ql 2 (Q8 (k + 1) (by omega) (by omega) (by rw [hst]; exact QX J ⟨rfl, rfl, rfl, rfl, rfl, rfl, rfl, rfl, rfl, rfl, by simp only [Int.natCast_add]; rfl, trivial⟩)))
    · rw [if_pos (by simpa using h6)] at hst; refine Q1 (Qz (Qx fun K hK => ?_)); refine Qq J J J (Q6 (n := 2) J J J J J Xm J (Q6 (n := 2) J J J J J lCs J (XJ (i := 5) (enc := wrE) (cv := csC) w (c1 + 1, c2) J J J (KeyIs.agg (us := wr2 w) J) J uMAll keyWrE (Qj (hK _ _ (Qz ?_)))))); clear hK K; refine Qx (fun K hK => ?_)
      refine Qk (iadd (by omega) (by omega)) J J J J ?_
      refine Qq J J J (Qj (hK _ _ (Q4 ?_))); clear hK K; refine Ql 3 (Ql 2 (Q8 (k + 1) (by omega) (by omega) (by rw [hst]; exact QX J ⟨rfl, rfl, rfl, rfl, rfl, rfl, rfl, rfl, rfl, rfl, by simp only [Int.natCast_add]; rfl, trivial⟩)))
  have hi' : i = o.length := by omega
  rw [hi', List.take_length]; have hMn : ((tickF wy o).map (·.1)).Nodup := tickF_nodup wy o [] List.nodup_nil; have hMl := tickF_len wy 256 hwl o []
  have hMl : (tickF wy o).length ≤ 2560000 := by
    have h9 : (tickF wy o).length ≤ 0 + o.length * 256 := hMl; omega
  have hbd := fun w => tick_bound wy w o
  have hsl : (sd cmpW ((tickF wy o).map (·.1))).length ≤ 2560000 := by
    have := Yv cmpW ((tickF wy o).map (·.1)); rw [List.length_map] at this; omega
  have hSW := SortedW_ok csC (tickF wy o) (by omega) hMn; generalize sd cmpW ((tickF wy o).map (·.1)) = ws at e hSW hsl; generalize tickF wy o = M at e hSW hbd ⊢; refine St.frzMs 5 8 J J noBor_sub (Qs (Qz (Qw (Qx fun K hK => ?_)))); refine Qv J J J (Qj (hK _ _ (Qz (Qw (Qw ?_))))); clear hK K; refine Qx (fun K hK => ?_); refine Qq J J J (QW goKeys (Keys_ok (alKv M)) J J J J (ZQ 4 goSortedW hSW J J J J J J (Zx 4 _ J (wrs_frozen _ _) noBor_sub (Qb J J sWrs.und (List.length_map ..) J (Qq J J J (Qj (hK _ _ (Qz (Q5 ?_))))))))); clear hK K
  refine Xg 15 7 39 5 J J J ?_
  refine Xx (α := Nat) (fun j => j ≤ ws.length)
    (fun j => [(1, .ct (intC n)), (8, .ct (.fr (mapT (alKv M)))), (15, .own 7), (74, .ct (wrsC ws)), (75, .ct (intC ws.length)), (76, .ct (intC j))])
    (fun j => [(7, .row 39 5 (cns ((ws.take j).map (cnOf M n)))), (8, .mpx v (knM m)), (1, .box 94 [.fr (mapT (owM om)), .ex v])])
    (fun j => ws.length - j) 0 (Nat.zero_le _) (by exact QX J ⟨rfl, rfl, rfl, rfl, rfl, rfl, trivial⟩) ?_
  intro j hj
  try dsimp only at hj ⊢
  refine Qw (Qx fun K hK => ?_); refine Qk ilss J J J J (Qj (hK _ _ (Qz (Qw ?_)))); clear hK K; refine Q2 J (fun h4 => ?_) (fun h4 => ?_)
  · have e2 : (j : Int).toNat = j := Int.toNat_natCast j
    have hs : (ws.take (j + 1)).map (cnOf M n) = (ws.take j).map (cnOf M n) ++ [cnOf M n (ws.getD j wr0)] := by
      rw [List.take_add_one, List.getElem?_eq_getElem (by omega), List.getD_eq_getElem?_getD, List.getElem?_eq_getElem (by omega), List.map_append]; rfl
    have hlt : ((ws.take j).map (cnOf M n)).length = j := by rw [List.length_map, List.length_take]; omega
    refine Q1 (Qz (Qw (Q5 (Qw (Qx fun K hK => ?_)))))
    refine Qh J J J sWrs (by omega) (wrs_at (by omega) (by omega)) J ?_
    rw [e2]; generalize ws.getD j wr0 = w at hs; generalize (ws.take j).map (cnOf M n) = q at hs hlt ⊢; have hb := hbd w; have hcn : cnOf M n w = ⟨w, ((look1 M w).getD (0, 0)).1, max 0 (((look1 M w).getD (0, 0)).2 - n), ((look1 M w).getD (0, 0)).2⟩ := rfl; rw [hcn] at hs; refine XX (n := 2) J J J Xm J J (Qg 2 J J zvWire J J J (Qa 2 J J J J J szWire J J (Qj (hK _ _ (Qz ?_))))); clear hK K; refine Xw mixed 8 (.p 0 (.p 2 (.p 5 (.fork 1 (.m 3 (.m 4 (.m 6 (.m 7 (.a 8 (.p 9 .done)))))) 3 (.fork 1 (.m 4 (.m 6 (.m 7 (.a 8 (.p 9 .done))))) 4 (.m 1 (.m 6 (.m 7 (.a 8 (.p 9 .done)))))))))) (by kernel_rfl) (fun K hK => ?_); refine Qq J J J (Qq J J J (Qq J J J (Y1 ?_ ?_)))
    · refine Q6 (n := 2) J J J J J Xm J (Q6 (n := 2) J J J J J Xm J (Ops.lookF (cv := csC) (enc := wrE) (0, 0) w J J J (KeyIs.agg (us := wr2 w) J) uMAll z0Cs csZ keyWrE J ?_)); skip
      refine QW gocounted (counted_ok w ((look1 M w).getD (0, 0)).1 ((look1 M w).getD (0, 0)).2 n (by omega) (by omega) (by omega)) J J J J ?_
      refine X6 (n := 5) J J sCns J J (by decide) J ?_
      refine Qt j (cns (q ++ [⟨w, ((look1 M w).getD (0, 0)).1, max 0 (((look1 M w).getD (0, 0)).2 - n), ((look1 M w).getD (0, 0)).2⟩])) J J J J sCns (by rw [cns_len, hlt]) J (by omega) (by omega) (cns_snoc _ _) J ?_
      refine Qv J J J (Qj (hK _ _ (Qz ?_))); clear hK K; refine Qx (fun K hK => ?_)
      refine Qk (iadd (by omega) (by omega)) J J J J ?_
      refine Qq J J J (Qj (hK _ _ (Q4 ?_))); clear hK K; refine Ql 2 (Q8 (j + 1) (by omega) (by omega) (by rw [hs]; exact QX J ⟨rfl, rfl, rfl, rfl, rfl, by simp only [Int.natCast_add]; rfl, trivial⟩))
    · refine Q6 (n := 2) J J J J J Xm J (Y1 ?_ ?_)
      · refine Q6 (n := 2) J J J J J Xm J (Ops.lookF (cv := csC) (enc := wrE) (0, 0) w J J J (KeyIs.agg (us := wr2 w) J) uMAll z0Cs csZ keyWrE J ?_); skip
        refine QW gocounted (counted_ok w ((look1 M w).getD (0, 0)).1 ((look1 M w).getD (0, 0)).2 n (by omega) (by omega) (by omega)) J J J J ?_
        refine X6 (n := 5) J J sCns J J (by decide) J ?_
        refine Qt j (cns (q ++ [⟨w, ((look1 M w).getD (0, 0)).1, max 0 (((look1 M w).getD (0, 0)).2 - n), ((look1 M w).getD (0, 0)).2⟩])) J J J J sCns (by rw [cns_len, hlt]) J (by omega) (by omega) (cns_snoc _ _) J ?_
        refine Qv J J J (Qj (hK _ _ (Qz ?_))); clear hK K; refine Qx (fun K hK => ?_)
        refine Qk (iadd (by omega) (by omega)) J J J J ?_
        refine Qq J J J (Qj (hK _ _ (Q4 ?_))); clear hK K; refine Ql 2 (Q8 (j + 1) (by omega) (by omega) (by rw [hs]; exact QX J ⟨rfl, rfl, rfl, rfl, rfl, by simp only [Int.natCast_add]; rfl, trivial⟩))
      · skip; refine Ops.lookF (cv := csC) (enc := wrE) (0, 0) w J J J (KeyIs.agg (us := wr2 w) J) uMAll z0Cs csZ keyWrE J (Q6 (n := 2) J J J J J Xm J (QW gocounted (counted_ok w ((look1 M w).getD (0, 0)).1 ((look1 M w).getD (0, 0)).2 n (by omega) (by omega) (by omega)) J J J J ?_))
        refine X6 (n := 5) J J sCns J J (by decide) J ?_
        refine Qt j (cns (q ++ [⟨w, ((look1 M w).getD (0, 0)).1, max 0 (((look1 M w).getD (0, 0)).2 - n), ((look1 M w).getD (0, 0)).2⟩])) J J J J sCns (by rw [cns_len, hlt]) J (by omega) (by omega) (cns_snoc _ _) J ?_
        refine Qv J J J (Qj (hK _ _ (Qz ?_))); clear hK K; refine Qx (fun K hK => ?_)
        refine Qk (iadd (by omega) (by omega)) J J J J ?_
        refine Qq J J J (Qj (hK _ _ (Q4 ?_))); clear hK K; refine Ql 2 (Q8 (j + 1) (by omega) (by omega) (by rw [hs]; exact QX J ⟨rfl, rfl, rfl, rfl, rfl, by simp only [Int.natCast_add]; rfl, trivial⟩))
  have hj' : j = ws.length := by omega
  rw [hj', List.take_length]; generalize ws.map (cnOf M n) = r at e ⊢; refine Qs (Qz (Qw (Qx fun K hK => ?_))); refine Qq J J J (Qv J J J (Qv J J J (Qj (hK _ _ (Qz (Q0 ?_)))))); clear hK K; refine Z6 7 _ J (cns_frozen _ _) noBor_sub (QU [_, _] rfl (Qu J (Qu J QQ)) (by rw [e]; rfl) J)
def fnS (id : Ik) (s : Rs × Bool) (r : Rs) : Rs × Bool := if idOf r = id ∧ (s.2 = false ∨ cmpR r s.1 < 0) ∧ okR r = true then (r, true) else s
def findF (l : List Rs) (id : Ik) : Rs × Bool := l.foldl (fnS id) (rs0, false)
theorem goFind : InGo Tryz.prog 111 := InGo.of Tryz.func111 rfl (by decide)
set_option maxHeartbeats 8000000 in
theorem Find_ok (l : List Rs) (hl : l.length ≤ 1000000) (id : Ik) : Ok Tryz.prog 111 [rssC l, ikC id] (.fr (tupT [rsC (findF l id).1, boolC (findF l id).2])) := by
  refine Ok.enter Tryz.func111 J _ Tryz.ntmps111 J ?_
  intro S w; refine Qw (Qx (fun K hK => ?_)); refine Xz 0 J J J J J J J (Qg 1 J J zvRes J J J (Qv J J J (Qj (hK _ _ (Qz (Qw ?_)))))); clear hK K; refine Qx (fun K hK => ?_); refine Qg 2 J J zvRes J J J (Qj (hK _ _ (Qz (Qw ?_)))); clear hK K; refine Qx (fun K hK => ?_); refine Qv J J J (Qj (hK _ _ (Qz (Qw (Qw ?_))))); clear hK K; refine Qx (fun K hK => ?_); refine Qq J J J (Qb J J sRes.und (List.length_map ..) J (Qq J J J (Qj (hK _ _ (Qz (Q5 ?_)))))); clear hK K
  refine Xx (α := Nat) (fun i => i ≤ l.length) (fun i => [(3, .own 0), (4, .own 1), (6, .own 2), (7, .ct (boolC ((l.take i).foldl (fnS id) (rs0, false)).2)), (10, .ct (rssC l)), (11, .ct (intC l.length)), (12, .ct (intC i))])
    (fun i => [(2, .box 35 (rsCs ((l.take i).foldl (fnS id) (rs0, false)).1)), (1, .box 35 (List.map CT.ex zRes.cells.toList)), (0, .box 124 (ikCs id))]) (fun i => l.length - i) 0 (Nat.zero_le _) (by exact QX J ⟨rfl, rfl, rfl, rfl, rfl, rfl, rfl, trivial⟩) ?_
  intro i hi
  try dsimp only at hi ⊢
  refine Qw (Qx fun K hK => ?_); refine Qk ilss J J J J (Qj (hK _ _ (Qz (Qw ?_)))); clear hK K; refine Q2 J (fun h => ?_) (fun h => ?_); rotate_left
  · have hi' : i = l.length := by omega
    rw [hi', List.take_length]; have e : findF l id = l.foldl (fnS id) (rs0, false) := rfl; rw [e]; generalize l.foldl (fnS id) (rs0, false) = s; obtain ⟨b, f⟩ := s; refine Qs (Qz (Qw (Qx fun K hK => ?_))); refine Q6 (n := 17) J J J J J lRes J (Qq J J J (Qa 17 J J J J J Z4 J J (Qv J J J (Qj (hK _ _ (Qz (Q0 ?_))))))); clear hK K; refine QU [_, _] rfl (Qc (n := 17) J J lRes J (Qu J QQ)) J J
  have e2 : (i : Int).toNat = i := Int.toNat_natCast i; have hs : (l.take (i + 1)).foldl (fnS id) (rs0, false) = fnS id ((l.take i).foldl (fnS id) (rs0, false)) (l.getD i rs0) := YY (fnS id) _ (by omega); refine Q1 (Qz (Qw (Q5 (Qw (Qx fun K hK => ?_)))))
  refine Qh J J J sRes (by omega) (Xd (by omega) (by omega)) J ?_
  refine XX (n := 17) J J J lRes J J ?_
  rw [e2]; generalize l.getD i rs0 = r at hs; generalize (l.take i).foldl (fnS id) (rs0, false) = s at hs ⊢; obtain ⟨b, f⟩ := s
  have ht : fnS id (b, f) r = if idOf r = id ∧ (f = false ∨ cmpR r b < 0) ∧ okR r = true then (r, true) else (b, f) := rfl
  rw [ht] at hs; clear ht; dsimp only; skip; refine Qg 3 J J zvRes J J J (Qa 17 J J J J J Z4 J J (Qj (hK _ _ (Qz (Qw ?_))))); clear hK K
  cases f with
  | false =>
    refine Xw mixed 18 (.f 0 (.f 2 (.m 1 (.p 3 (.p 4 (.p 5 (.p 6 (.p 7 (.f 8 (.f 9 (.m 10 (.p 11 (.p 12 (.p 13 (.p 14 (.f 15 (.m 16 (.p 17 .done)))))))))))))))))) (by kernel_rfl) (fun K hK => ?_); refine Q6 (n := 17) J J J J J lRes J (Q6 (n := 3) J J J J J lID J (QW Zh (Zo r) J J J J (eqIk (idOf r) id J J J J J (Qq J J J (Q7 20 J (fun g1 => ?_) (fun g1 => ?_))))))
    · refine Qq J J J (Qm J J J (Qq J J J (Qy J J J (Qy J J J (Qy J J J (Qy J J J (QJ J J J J (QJ J J J J (Qq J J J (Q6 (n := 17) J J J J J lRes J (QW goValidR (ValidR_ok r) J J J J (QJ J J J J (Qj (hK _ _ (Qz ?_))))))))))))))); clear hK K; refine XZ J (fun g => ?_) (fun g => ?_)
      · rw [if_pos ⟨g1, .inl J, g⟩] at hs; refine Qx (fun K hK => ?_); refine Q6 (n := 17) J J J J J lRes J (Qa 17 J J J J J Z4 J J (Qv J J J (Qj (hK _ _ (Qz ?_))))); clear hK K; refine Qx (fun K hK => ?_)
        refine Qk (iadd (by omega) (by omega)) J J J J ?_
        refine Qq J J J (Qj (hK _ _ (Q4 ?_))); clear hK K; refine Ql 3 (Q8 (i + 1) (by omega) (by omega) (by rw [hs]; exact QX J ⟨rfl, rfl, rfl, rfl, rfl, rfl, by simp only [Int.natCast_add]; rfl, trivial⟩))
      · rw [if_neg (fun h => by rw [h.2.2] at g; cases g)] at hs; refine Q1 (Qz (Qx fun K hK => ?_))
        refine Qk (iadd (by omega) (by omega)) J J J J ?_
        refine Qq J J J (Qj (hK _ _ (Q4 ?_))); clear hK K; refine Ql 3 (Q8 (i + 1) (by omega) (by omega) (by rw [hs]; exact QX J ⟨rfl, rfl, rfl, rfl, rfl, rfl, by simp only [Int.natCast_add]; rfl, trivial⟩))
    · rw [if_neg (fun h => g1 h.1)] at hs; refine Qy J J J (Qy J J J (Qy J J J (Qy J J J (Qy J J J (Qy J J J (Qy J J J (Qy J J J (QK J J J J (Qq J J J (Qy J J J (Qy J J J (QK J J J J (Qj (hK _ _ (Qz (Xv J (Q1 (Qz ?_)))))))))))))))))); clear hK K; refine Qx (fun K hK => ?_)
      refine Qk (iadd (by omega) (by omega)) J J J J ?_
      refine Qq J J J (Qj (hK _ _ (Q4 ?_))); clear hK K; refine Ql 3 (Q8 (i + 1) (by omega) (by omega) (by rw [hs]; exact QX J ⟨rfl, rfl, rfl, rfl, rfl, rfl, by simp only [Int.natCast_add]; rfl, trivial⟩))
  | true =>
    refine Xw mixed 18 (.f 0 (.f 2 (.m 1 (.p 3 (.p 4 (.p 5 (.p 6 (.p 7 (.f 8 (.f 9 (.m 10 (.p 11 (.p 12 (.p 13 (.p 14 (.f 15 (.m 16 (.p 17 .done)))))))))))))))))) (by kernel_rfl) (fun K hK => ?_); refine Q6 (n := 17) J J J J J lRes J (Q6 (n := 3) J J J J J lID J (QW Zh (Zo r) J J J J (eqIk (idOf r) id J J J J J (Qq J J J (Q7 20 J (fun g1 => ?_) (fun g1 => ?_))))))
    · refine Qq J J J (Qm J J J (Qq J J J (Q6 (n := 17) J J J J J lRes J (Q6 (n := 17) J J J J J lRes J (QW goCmpR (cmpR_ok r b) J J J J (Qk ilss J J J J (QK J J J J (QJ J J J J (Qq J J J (Q7 30 J (fun g2 => ?_) (fun g2 => ?_)))))))))))
      · refine Q6 (n := 17) J J J J J lRes J (QW goValidR (ValidR_ok r) J J J J (QJ J J J J (Qj (hK _ _ (Qz ?_))))); clear hK K; refine XZ J (fun g => ?_) (fun g => ?_)
        · rw [if_pos ⟨g1, .inr g2, g⟩] at hs; refine Qx (fun K hK => ?_); refine Q6 (n := 17) J J J J J lRes J (Qa 17 J J J J J Z4 J J (Qv J J J (Qj (hK _ _ (Qz ?_))))); clear hK K; refine Qx (fun K hK => ?_)
          refine Qk (iadd (by omega) (by omega)) J J J J ?_
          refine Qq J J J (Qj (hK _ _ (Q4 ?_))); clear hK K; refine Ql 3 (Q8 (i + 1) (by omega) (by omega) (by rw [hs]; exact QX J ⟨rfl, rfl, rfl, rfl, rfl, rfl, by simp only [Int.natCast_add]; rfl, trivial⟩))
        · rw [if_neg (fun h => by rw [h.2.2] at g; cases g)] at hs; refine Q1 (Qz (Qx fun K hK => ?_))
          refine Qk (iadd (by omega) (by omega)) J J J J ?_
          refine Qq J J J (Qj (hK _ _ (Q4 ?_))); clear hK K; refine Ql 3 (Q8 (i + 1) (by omega) (by omega) (by rw [hs]; exact QX J ⟨rfl, rfl, rfl, rfl, rfl, rfl, by simp only [Int.natCast_add]; rfl, trivial⟩))
      · rw [if_neg (fun h => h.2.1.elim (fun h => by cases h) g2)] at hs; refine Qy J J J (Qy J J J (QK J J J J (Qj (hK _ _ (Qz (Xv J (Q1 (Qz ?_)))))))); clear hK K; refine Qx (fun K hK => ?_)
        refine Qk (iadd (by omega) (by omega)) J J J J ?_
        refine Qq J J J (Qj (hK _ _ (Q4 ?_))); clear hK K; refine Ql 3 (Q8 (i + 1) (by omega) (by omega) (by rw [hs]; exact QX J ⟨rfl, rfl, rfl, rfl, rfl, rfl, by simp only [Int.natCast_add]; rfl, trivial⟩))
    · rw [if_neg (fun h => g1 h.1)] at hs; refine Qy J J J (Qy J J J (Qy J J J (Qy J J J (Qy J J J (Qy J J J (Qy J J J (Qy J J J (QK J J J J (Qq J J J (Qy J J J (Qy J J J (QK J J J J (Qj (hK _ _ (Qz (Xv J (Q1 (Qz ?_)))))))))))))))))); clear hK K; refine Qx (fun K hK => ?_)
      refine Qk (iadd (by omega) (by omega)) J J J J ?_
      refine Qq J J J (Qj (hK _ _ (Q4 ?_))); clear hK K; refine Ql 3 (Q8 (i + 1) (by omega) (by omega) (by rw [hs]; exact QX J ⟨rfl, rfl, rfl, rfl, rfl, rfl, by simp only [Int.natCast_add]; rfl, trivial⟩))
def lsG (l : List Rs) (w : Wr) (an : Bool) : Bool → Rs → List Ik → Bool
  | _, _, [] => true
  | p, last, id :: ids => if (findF l id).2 = false ∨ (findF l id).1.an ≠ an ∨ ¬ w ∈ wayF l (findF l id).1 ∨ (p = true ∧ 0 ≤ cmpR last (findF l id).1) then false else lsG l w an true (findF l id).1 ids
theorem golisted : InGo Tryz.prog 68 := InGo.of Tryz.func68 rfl (by decide)
set_option maxHeartbeats 16000000 in
theorem listed_ok (l : List Rs) (hl : l.length ≤ 10000) (v : Value) (hv : v.oneCell' = true) (w : Wr) (ids : List Ik) (hids : ids.length ≤ 9223372036854775806) (an : Bool) (al : KnM) (hal : knOk l al) :
    OkM Tryz.prog 68 [.ct (rssC l), .ct (travC (owF l) v), .ct (wrC w), .ct (iksC ids), .ct (boolC an)] [(8, .mpx v (knM al))] [] (fun m : KnM => knOk l m) (fun _ => .ct (boolC (lsG l w an false rs0 ids))) (fun m => [(8, .mpx v (knM m))]) := by
  have hF := fun id => Find_ok l (by omega) id
  have hW := fun r (m : KnM) hm => Way_ok l hl v hv r m hm
  have hwl := wayF_len l
  have hstep : ∀ p last id ids, lsG l w an p last (id :: ids) = if (findF l id).2 = false ∨ (findF l id).1.an ≠ an ∨ ¬ w ∈ wayF l (findF l id).1 ∨ (p = true ∧ 0 ≤ cmpR last (findF l id).1) then false else lsG l w an true (findF l id).1 ids := fun _ _ _ _ => rfl
  have hend : ∀ p last, lsG l w an p last [] = true := fun _ _ => rfl
  generalize lsG l w an = ls at hstep hend ⊢; generalize findF l = fd at hF hstep; generalize wayF l = wy at hW hwl hstep; generalize owF l = om at hW ⊢
  refine OkM.enter Tryz.func68 J _ Tryz.ntmps68 J (fun i hi => by cases hi) ?_
  intro S w0 ρ0 hbor; refine Qw (Qx (fun K hK => ?_))
  refine Xz 0 J J J (by show (true && (Value.oneCell' v && true)) = true; rw [hv]; rfl) J J J ?_
  refine Xz 1 J J J J J J J (Qv J J J (Qj (hK _ _ (Qz (Qw ?_))))); clear hK K; refine Qx (fun K hK => ?_); refine Qg 2 J J zvRes J J J (Qj (hK _ _ (Qz (Qw (Qw ?_))))); clear hK K; refine Qx (fun K hK => ?_); refine Qq J J J (Qb J J sIks.und (List.length_map ..) J (Qq J J J (Qj (hK _ _ (Qz (Q5 ?_)))))); clear hK K; generalize hout : ls false rs0 ids = out
  refine Xx (α := Nat × Rs × KnM) (fun q => q.1 ≤ ids.length ∧ knOk l q.2.2 ∧ ls (decide (0 < q.1)) q.2.1 (ids.drop q.1) = out)
    (fun q => [(0, .ct (rssC l)), (4, .ct (boolC an)), (6, .own 0), (7, .own 1), (11, .own 2), (16, .ct (iksC ids)), (17, .ct (intC ids.length)), (18, .ct (intC q.1))])
    (fun q => [(8, .mpx v (knM q.2.2)), (2, .box 35 (rsCs q.2.1)), (1, .box 37 (wrCs w)), (0, .box 94 [.fr (mapT (owM om)), .ex v])])
    (fun q => ids.length - q.1) (0, rs0, al) ⟨Nat.zero_le _, hal, hout⟩ (Entails.front 8 _ J <| by exact QX J ⟨rfl, rfl, rfl, rfl, rfl, rfl, rfl, rfl, trivial⟩) ?_
  clear hout hal; intro ⟨j, last, m⟩ ⟨hj, hm, hout⟩
  try dsimp only at hj hm hout ⊢
  refine Qw (Qx fun K hK => ?_); refine Qk ilss J J J J (Qj (hK _ _ (Qz (Qw ?_)))); clear hK K; refine Q2 J (fun h => ?_) (fun h => ?_); rotate_left
  · rw [List.drop_of_length_le (by omega), hend] at hout; refine Qs (Qz (Qw (Qx fun K hK => ?_))); refine Qv J J J (Qj (hK _ _ (Qz (Q0 ?_)))); clear hK K; refine ZV [2, 1, 0] m [_] rfl (Qu J QQ) (by rw [← hout]; rfl) J (fun _ => rfl) hm
  have e2 : (j : Int).toNat = j := Int.toNat_natCast j; rw [dropA (z := ik0) (by omega), hstep] at hout; refine Q1 (Qz (Qw (Q5 (Qw (Qx fun K hK => ?_))))); refine Qq J J J (Qh J J J sIks (by omega) (iks_at (by omega) (by omega)) J ?_); rw [e2]; generalize ids.getD j ik0 = id at hout; refine XX (n := 3) J J J lID J J (Qg 3 J J zvID J J J (Qv J J J (Qa 3 J J J J J szID J J (Qj (hK _ _ (Qz (Qw ?_))))))); clear hK K; refine Qx (fun K hK => ?_); refine Qq J J J (Q6 (n := 3) J J J J J lID J (QW goFind (hF id) J J J J ?_)); generalize fd id = q at hout ⊢; obtain ⟨r, ff⟩ := q; dsimp only at hout ⊢; refine Qq J J J (Q9 J J J J (Q9 J J J J (Qg 4 J J zvRes J J J (Qa 17 J J J J J Z4 J J (Qv J J J (Qj (hK _ _ (Qz (Qw (Qw ?_)))))))))); clear hK K; clear hF hstep hend
  cases ff with
  | false =>
    refine Yq mixed [11] (.p 0 (.p 1 (.p 2 (.p 3 (.p 5 (.f 4 (.p 6 (.p 7 (.p 8 (.f 9 (.f 10 (.a 11 (.f 12 (.m 13 (.p 14 (.p 15 (.p 16 (.p 17 (.p 18 (.p 19 (.f 20 (.f 21 (.m 22 (.p 23 (.p 24 (.p 25 .done))) .non))))))))) .non)) (.m 12 (.a 11 (.m 13 (.p 14 (.p 15 (.p 16 (.p 17 (.p 18 (.p 19 (.f 20 (.f 21 (.m 22 (.p 23 (.p 24 (.p 25 .done))) .non))))))))) .non) .non) .non))))))))))))) (by kernel_rfl) (fun K hK => ?_); refine Qo (Qq J J J (Qj (Qo (Qm J J J (Qj (Qo (Qq J J J (Qj (Qo (Qy J J J (Qj (Qo (Qy J J J (Qj (XU (Qy J J J (Qj (Qo (Qy J J J (Qj (Qo (QJ J J J J (Qj (Qo (Qq J J J (Qj (XU (Qy J J J (Qj (XU (Qy J J J (Qj (Xk ?_ ?_)))))))))))))))))))))))))))))))))
    · skip; refine Qy J J J (Qj (XU (Qy J J J (Qj (X1 ?_ Qf))))); refine Qy J J J (Qj (Qo (Qy J J J (Qj (Qo (QJ J J J J (Qj (Qo (Qq J J J (Qj (Qo (Qy J J J (Qj (Qo (Qy J J J (Qj (Qo (Qy J J J (Qj (XU (Qy J J J (Qj (XU (Qy J J J (Qj (X1 ?_ Qf)))))))))))))))))))))))))); refine Qy J J J (Qj (Qo (Qy J J J (Qj (Qo (Qy J J J (Qj (Qo (QJ J J J J (Qj (Xy (hK _ _ ?_)))))))))))); rw [if_pos (.inl J)] at hout; refine Qz (Qp J (Qw (Qx fun K hK => ?_))); refine Qv J J J (Qj (hK _ _ (Qz (Q0 (QZ (Q3 (QZ (QZ (Q3 (QZ ?_)))))))))); clear hK K; refine ZV [4, 3, 2, 1, 0] m [_] rfl (Qu J QQ) (by rw [hout]; rfl) J (fun _ => rfl) hm
    refine X1 ?_ Qf
    refine Qy J J J (Qj (Xk ?_ Qf)); refine Qy J J J (Qj (X1 ?_ Qf)); refine Qy J J J (Qj (Qo (Qy J J J (Qj (Qo (QJ J J J J (Qj (Qo (Qq J J J (Qj (Qo (Qy J J J (Qj (Qo (Qy J J J (Qj (Qo (Qy J J J (Qj (XU (Qy J J J (Qj (XU (Qy J J J (Qj (X1 ?_ Qf)))))))))))))))))))))))))); refine Qy J J J (Qj (Qo (Qy J J J (Qj (Qo (Qy J J J (Qj (Qo (QJ J J J J (Qj (Xy (hK _ _ ?_)))))))))))); rw [if_pos (.inl J)] at hout; refine Qz (Qp J (Qw (Qx fun K hK => ?_))); refine Qv J J J (Qj (hK _ _ (Qz (Q0 (QZ (Q3 (QZ (QZ (Q3 (QZ ?_)))))))))); clear hK K; refine ZV [4, 3, 2, 1, 0] m [_] rfl (Qu J QQ) (by rw [hout]; rfl) J (fun _ => rfl) hm
  | true =>
    refine Yq mixed [11] (.p 0 (.p 1 (.p 2 (.p 3 (.p 5 (.f 4 (.p 6 (.p 7 (.p 8 (.f 9 (.f 10 (.a 11 (.f 12 (.m 13 (.p 14 (.p 15 (.p 16 (.p 17 (.p 18 (.p 19 (.f 20 (.f 21 (.m 22 (.p 23 (.p 24 (.p 25 .done))) .non))))))))) .non)) (.m 12 (.a 11 (.m 13 (.p 14 (.p 15 (.p 16 (.p 17 (.p 18 (.p 19 (.f 20 (.f 21 (.m 22 (.p 23 (.p 24 (.p 25 .done))) .non))))))))) .non) .non) .non))))))))))))) (by kernel_rfl) (fun K hK => ?_); refine Qo (Qq J J J (Qj (Qo (Qm J J J (Qj (Qo (Qq J J J (Qj (Qo (QV J J J fS8 J (Qj (Qo (Qq J J J (Qj (XU (QY J J J J J lBool1 J (Qj (Qo (Ops.bne J J J Tryz.underlying4 J (Qj (Qo (QK J J J J (Qj (Qo (Qq J J J (Qj (XU (X3 37 J (fun g37 => ?_) (fun g37 => ?_)))))))))))))))))))))))))))))
    · skip; refine Qy J J J (Qj (XU (Qy J J J (Qj (Xk ?_ ?_)))))
      · skip; refine Qy J J J (Qj (XU (Qy J J J (Qj (X1 ?_ Qf))))); refine Qy J J J (Qj (Qo (Qy J J J (Qj (Qo (QJ J J J J (Qj (Qo (Qq J J J (Qj (Qo (Qy J J J (Qj (Qo (Qy J J J (Qj (Qo (Qy J J J (Qj (XU (Qy J J J (Qj (XU (Qy J J J (Qj (X1 ?_ Qf)))))))))))))))))))))))))); refine Qy J J J (Qj (Qo (Qy J J J (Qj (Qo (Qy J J J (Qj (Qo (QJ J J J J (Qj (Xy (hK _ _ ?_)))))))))))); rw [if_pos (.inr (.inl (by simpa using g37)))] at hout; refine Qz (Qp J (Qw (Qx fun K hK => ?_))); refine Qv J J J (Qj (hK _ _ (Qz (Q0 (QZ (Q3 (QZ (QZ (Q3 (QZ ?_)))))))))); clear hK K; refine ZV [4, 3, 2, 1, 0] m [_] rfl (Qu J QQ) (by rw [hout]; rfl) J (fun _ => rfl) hm
      refine X1 ?_ Qf
      refine Qy J J J (Qj (Xk ?_ Qf)); refine Qy J J J (Qj (X1 ?_ Qf)); refine Qy J J J (Qj (Qo (Qy J J J (Qj (Qo (QJ J J J J (Qj (Qo (Qq J J J (Qj (Qo (Qy J J J (Qj (Qo (Qy J J J (Qj (Qo (Qy J J J (Qj (XU (Qy J J J (Qj (XU (Qy J J J (Qj (X1 ?_ Qf)))))))))))))))))))))))))); refine Qy J J J (Qj (Qo (Qy J J J (Qj (Qo (Qy J J J (Qj (Qo (QJ J J J J (Qj (Xy (hK _ _ ?_)))))))))))); rw [if_pos (.inr (.inl (by simpa using g37)))] at hout; refine Qz (Qp J (Qw (Qx fun K hK => ?_))); refine Qv J J J (Qj (hK _ _ (Qz (Q0 (QZ (Q3 (QZ (QZ (Q3 (QZ ?_)))))))))); clear hK K; refine ZV [4, 3, 2, 1, 0] m [_] rfl (Qu J QQ) (by rw [hout]; rfl) J (fun _ => rfl) hm
    · skip; refine Q6 (n := 2) J J J J J lTrav J (Qj (XU (Q6 (n := 17) J J J J J lRes J (Qj (Xk ?_ ?_)))))
      · skip; refine Ops.call1 (As := [travC om v, rsC r]) 8 goway (hW r m hm) J J J hbor J (fun p hp => absurd hp (by simp)) (fun q j hq => by rcases hq with hq | ⟨_, hq⟩ <;> cases hq) (fun m' hm' => ?_); refine Qj (XU (Q6 (n := 2) J J J J J Xm J (Qj (X1 ?_ Qf))))
        refine QW goContains_wr (Contains_wr (wy r) w (by have := hwl r; omega)) J J J J ?_
        refine Qj (Qo (Qm J J J (Qj (Qo (QK J J J J (Qj (Qo (Qq J J J (Qj (Qo (X3 45 J (fun g45 => ?_) (fun g45 => ?_))))))))))))
        · skip; refine Qy J J J (Qj (Qo (Qy J J J (Qj (Qo (Qy J J J (Qj (XU (Qy J J J (Qj (XU (Qy J J J (Qj (X1 ?_ Qf)))))))))))))); refine Qy J J J (Qj (Qo (Qy J J J (Qj (Qo (Qy J J J (Qj (Qo (QJ J J J J (Qj (Xy (hK _ _ ?_)))))))))))); rw [if_pos (.inr (.inr (.inl (by simpa using g45))))] at hout; refine Qz (Qp J (Qw (Qx fun K hK => ?_))); refine Qv J J J (Qj (hK _ _ (Qz (Q0 (QZ (Q3 (QZ (QZ (Q3 (QZ ?_)))))))))); clear hK K; refine ZV [4, 3, 2, 1, 0] m' [_] rfl (Qu J QQ) (by rw [hout]; rfl) J (fun _ => rfl) hm'
        · skip; refine Qq J J J (Qj (Qo (Qk igtr J J J J (Qj (Qo (Qq J J J (Qj (XU (Q7 48 J (fun g48 => ?_) (fun g48 => ?_))))))))))
          · skip; refine Q6 (n := 17) J J J J J lRes J (Qj (XU (Q6 (n := 17) J J J J J lRes J (Qj (X1 ?_ Qf))))); refine QW goCmpR (cmpR_ok last r) J J J J (Qj (Qo (Qk igeq J J J J (Qj (Qo (QJ J J J J (Qj (Qo (QK J J J J (Qj (Xy (hK _ _ ?_)))))))))))); refine Qz (Q2 J (fun g9 => ?_) (fun g9 => ?_))
            · rw [if_pos (.inr (.inr (.inr ⟨by simpa using g48, g9⟩)))] at hout; refine Qw (Qx fun K hK => ?_); refine Qv J J J (Qj (hK _ _ (Qz (Q0 (QZ (Q3 (QZ (QZ (Q3 (QZ ?_)))))))))); clear hK K; refine ZV [4, 3, 2, 1, 0] m' [_] rfl (Qu J QQ) (by rw [hout]; rfl) J (fun _ => rfl) hm'
            · rw [if_neg (fun h => h.elim (fun h => by cases h) (fun h => h.elim (fun h => h (by simpa using g37)) (fun h => h.elim (fun h => h (by simpa using g45)) (fun h => g9 h.2))))] at hout; refine Q1 (Qz (Qx fun K hK => ?_)); refine Q6 (n := 17) J J J J J lRes J (Qa 17 J J J J J Z4 J J (Qj (hK _ _ (Qz ?_)))); clear hK K; refine Qx (fun K hK => ?_)
              refine Qk (iadd (by omega) (by omega)) J J J J ?_
              refine Qq J J J (Qj (hK _ _ (Q4 ?_))); clear hK K; refine Ql 4 (Ql 3 (Q8 (j + 1, r, m') (by dsimp only; omega) ⟨by dsimp only; omega, hm', hout⟩ (by exact QX J ⟨rfl, rfl, rfl, rfl, rfl, rfl, rfl, by simp only [Int.natCast_add]; rfl, trivial⟩)))
          · skip; refine Qy J J J (Qj (XU (Qy J J J (Qj (X1 ?_ Qf))))); refine Qy J J J (Qj (Qo (Qy J J J (Qj (Qo (QK J J J J (Qj (Qo (QK J J J J (Qj (Xy (hK _ _ ?_)))))))))))); rw [if_neg (fun h => h.elim (fun h => by cases h) (fun h => h.elim (fun h => h (by simpa using g37)) (fun h => h.elim (fun h => h (by simpa using g45)) (fun h => g48 (by have := h.1; simpa using this)))))] at hout; refine Qz (Xv J (Q1 (Qz (Qx fun K hK => ?_)))); refine Q6 (n := 17) J J J J J lRes J (Qa 17 J J J J J Z4 J J (Qj (hK _ _ (Qz ?_)))); clear hK K; refine Qx (fun K hK => ?_)
            refine Qk (iadd (by omega) (by omega)) J J J J ?_
            refine Qq J J J (Qj (hK _ _ (Q4 ?_))); clear hK K; refine Ql 4 (Ql 3 (Q8 (j + 1, r, m') (by dsimp only; omega) ⟨by dsimp only; omega, hm', hout⟩ (by exact QX J ⟨rfl, rfl, rfl, rfl, rfl, rfl, rfl, by simp only [Int.natCast_add]; rfl, trivial⟩)))
      refine X1 ?_ Qf
      refine Q6 (n := 2) J J J J J Xm J (Qj (Xk ?_ Qf)); refine Ops.call1 (As := [travC om v, rsC r]) 8 goway (hW r m hm) J J J hbor J (fun p hp => absurd hp (by simp)) (fun q j hq => by rcases hq with hq | ⟨_, hq⟩ <;> cases hq) (fun m' hm' => ?_); refine Qj (X1 ?_ Qf)
      refine QW goContains_wr (Contains_wr (wy r) w (by have := hwl r; omega)) J J J J ?_
      refine Qj (Qo (Qm J J J (Qj (Qo (QK J J J J (Qj (Qo (Qq J J J (Qj (Qo (X3 45 J (fun g45 => ?_) (fun g45 => ?_))))))))))))
      · skip; refine Qy J J J (Qj (Qo (Qy J J J (Qj (Qo (Qy J J J (Qj (XU (Qy J J J (Qj (XU (Qy J J J (Qj (X1 ?_ Qf)))))))))))))); refine Qy J J J (Qj (Qo (Qy J J J (Qj (Qo (Qy J J J (Qj (Qo (QJ J J J J (Qj (Xy (hK _ _ ?_)))))))))))); rw [if_pos (.inr (.inr (.inl (by simpa using g45))))] at hout; refine Qz (Qp J (Qw (Qx fun K hK => ?_))); refine Qv J J J (Qj (hK _ _ (Qz (Q0 (QZ (Q3 (QZ (QZ (Q3 (QZ ?_)))))))))); clear hK K; refine ZV [4, 3, 2, 1, 0] m' [_] rfl (Qu J QQ) (by rw [hout]; rfl) J (fun _ => rfl) hm'
      · skip; refine Qq J J J (Qj (Qo (Qk igtr J J J J (Qj (Qo (Qq J J J (Qj (XU (Q7 48 J (fun g48 => ?_) (fun g48 => ?_))))))))))
        · skip; refine Q6 (n := 17) J J J J J lRes J (Qj (XU (Q6 (n := 17) J J J J J lRes J (Qj (X1 ?_ Qf))))); refine QW goCmpR (cmpR_ok last r) J J J J (Qj (Qo (Qk igeq J J J J (Qj (Qo (QJ J J J J (Qj (Qo (QK J J J J (Qj (Xy (hK _ _ ?_)))))))))))); refine Qz (Q2 J (fun g9 => ?_) (fun g9 => ?_))
          · rw [if_pos (.inr (.inr (.inr ⟨by simpa using g48, g9⟩)))] at hout; refine Qw (Qx fun K hK => ?_); refine Qv J J J (Qj (hK _ _ (Qz (Q0 (QZ (Q3 (QZ (QZ (Q3 (QZ ?_)))))))))); clear hK K; refine ZV [4, 3, 2, 1, 0] m' [_] rfl (Qu J QQ) (by rw [hout]; rfl) J (fun _ => rfl) hm'
          · rw [if_neg (fun h => h.elim (fun h => by cases h) (fun h => h.elim (fun h => h (by simpa using g37)) (fun h => h.elim (fun h => h (by simpa using g45)) (fun h => g9 h.2))))] at hout; refine Q1 (Qz (Qx fun K hK => ?_)); refine Q6 (n := 17) J J J J J lRes J (Qa 17 J J J J J Z4 J J (Qj (hK _ _ (Qz ?_)))); clear hK K; refine Qx (fun K hK => ?_)
            refine Qk (iadd (by omega) (by omega)) J J J J ?_
            refine Qq J J J (Qj (hK _ _ (Q4 ?_))); clear hK K; refine Ql 4 (Ql 3 (Q8 (j + 1, r, m') (by dsimp only; omega) ⟨by dsimp only; omega, hm', hout⟩ (by exact QX J ⟨rfl, rfl, rfl, rfl, rfl, rfl, rfl, by simp only [Int.natCast_add]; rfl, trivial⟩)))
        · skip; refine Qy J J J (Qj (XU (Qy J J J (Qj (X1 ?_ Qf))))); refine Qy J J J (Qj (Qo (Qy J J J (Qj (Qo (QK J J J J (Qj (Qo (QK J J J J (Qj (Xy (hK _ _ ?_)))))))))))); rw [if_neg (fun h => h.elim (fun h => by cases h) (fun h => h.elim (fun h => h (by simpa using g37)) (fun h => h.elim (fun h => h (by simpa using g45)) (fun h => g48 (by have := h.1; simpa using this)))))] at hout; refine Qz (Xv J (Q1 (Qz (Qx fun K hK => ?_)))); refine Q6 (n := 17) J J J J J lRes J (Qa 17 J J J J J Z4 J J (Qj (hK _ _ (Qz ?_)))); clear hK K; refine Qx (fun K hK => ?_)
          refine Qk (iadd (by omega) (by omega)) J J J J ?_
          refine Qq J J J (Qj (hK _ _ (Q4 ?_))); clear hK K; refine Ql 4 (Ql 3 (Q8 (j + 1, r, m') (by dsimp only; omega) ⟨by dsimp only; omega, hm', hout⟩ (by exact QX J ⟨rfl, rfl, rfl, rfl, rfl, rfl, rfl, by simp only [Int.natCast_add]; rfl, trivial⟩)))
def hoF (l : List Rs) (n : Int) (c : Cn) (s t : List Ik) : Bool :=
  if n < 0 ∨ 1048576 < n then false else if ¬ chkF l = 0 then false
  else lsG l c.wr true false rs0 s && (lsG l c.wr false false rs0 t && (decide ((t.length : Int) ≤ c.hi) && (decide (c.se = s.length + t.length) && decide (c.lo ≤ max 0 (t.length - n)))))
theorem goHolds : InGo Tryz.prog 31 := InGo.of Tryz.func31 rfl (by decide)
set_option maxHeartbeats 16000000 in
theorem Holds_ok (l : List Rs) (hl : l.length ≤ 10000) (n : Int) (c : Cn) (s t : List Ik) (hs : s.length ≤ 4000000000) (ht : t.length ≤ 4000000000) : Ok Tryz.prog 31 [rssC l, intC n, cnC c, iksC s, iksC t] (boolC (hoF l n c s t)) := by
  have hC := check_ok l hl; have hT := Travel_ok l hl
  have hL := fun v (hv : v.oneCell' = true) ids an (hids : ids.length ≤ 4000000000) al hal => listed_ok l hl v hv c.wr ids (by omega) an al hal
  have e : hoF l n c s t = if n < 0 ∨ 1048576 < n then false else if ¬ chkF l = 0 then false
    else lsG l c.wr true false rs0 s && (lsG l c.wr false false rs0 t && (decide ((t.length : Int) ≤ c.hi) && (decide (c.se = s.length + t.length) && decide (c.lo ≤ max 0 (t.length - n))))) := rfl
  generalize chkF l = k at hC e; generalize hoF l n c s t = out at e ⊢
  have hL1 := fun v hv al hal => hL v hv s true hs al hal
  have hL2 := fun v hv al hal => hL v hv t false ht al hal
  clear hL; generalize lsG l c.wr true false rs0 s = b1 at hL1 e; generalize lsG l c.wr false false rs0 t = b2 at hL2 e; generalize owF l = om at hT hL1 hL2
  refine Ok.enter Tryz.func31 J _ Tryz.ntmps31 J ?_
  intro S w0; refine Qw (Qx (fun K hK => ?_)); refine Xz 0 J J J J J J J (Qv J J J (Qj (hK _ _ (Qz (Qw (Qw ?_)))))); clear hK K; refine Qx (fun K hK => ?_); refine Qq J J J (Qk ilss J J J J (Qq J J J (Q7 14 J (fun h1 => ?_) (fun h1 => ?_))))
  · rw [if_pos (.inl h1)] at e; refine Qy J J J (Qy J J J (QJ J J J J (Qq J J J (Qy J J J (Qy J J J (Qy J J J (QJ J J J J (Qj (hK _ _ (Qz (Qp J (Qw ?_)))))))))))); clear hK K; refine Qx (fun K hK => ?_); refine Qv J J J (Qj (hK _ _ (Qz (Q0 (QZ ?_))))); clear hK K; refine QU [_] rfl (Qu J QQ) (by rw [e]; rfl) J
  refine Qq J J J (Qk igtr J J J J (QK J J J J (Qq J J J (Q7 18 J (fun h2 => ?_) (fun h2 => ?_)))))
  · rw [if_pos (.inr h2)] at e; refine Qy J J J (Qy J J J (Qy J J J (QJ J J J J (Qj (hK _ _ (Qz (Qp J (Qw ?_)))))))); clear hK K; refine Qx (fun K hK => ?_); refine Qv J J J (Qj (hK _ _ (Qz (Q0 (QZ ?_))))); clear hK K; refine QU [_] rfl (Qu J QQ) (by rw [e]; rfl) J
  rw [if_neg (fun h => h.elim h1 h2)] at e; refine Qq J J J (QW gocheck hC J J J J (Qk ineq J J J J (QK J J J J (Qj (hK _ _ (Qz ?_)))))); clear hK K; refine Q2 J (fun h3 => ?_) (fun h3 => ?_)
  · rw [if_pos h3] at e; refine Qw (Qx fun K hK => ?_); refine Qv J J J (Qj (hK _ _ (Qz (Q0 (QZ ?_))))); clear hK K; refine QU [_] rfl (Qu J QQ) (by rw [e]; rfl) J
  rw [if_neg h3] at e; refine Q1 (Qz (Qw (Qx fun K hK => ?_))); refine Qq J J J (Ops.callNew 8 gotravel hT J J J (fun _ h => h.elim) J J J (fun v hv => ?_)); refine Qg 1 J J zvTrav J J J (Qa 2 J J J J (by show (true && (Value.oneCell' v && true)) = true; rw [hv]; rfl) szTrav J J ?_); refine Qj (hK _ _ (Qz (Qw ?_))); clear hK K; refine Qx (fun K hK => ?_); refine Qq J J J (Q6 (n := 2) J J J J J lTrav J (QV J J J fCn0 J (Ops.ldNA (n := 2) J J J J (Nat.le_of_ble_eq_true J) Xm J (Qq J J J (Ops.call1 (As := [rssC l, travC om v, wrC c.wr, iksC s, boolC true]) 8 golisted (hL1 v hv [] (fun _ _ h => by cases h)) J J J (fun _ h => h.elim) J (fun p hp => absurd hp (by simp)) (fun q j hq => by rcases hq with hq | ⟨_, hq⟩ <;> cases hq) (fun m hm => ?_)))))); refine Qq J J J (X3 31 J (fun g1 => ?_) (fun g1 => ?_)); rotate_left
  · rw [g1, Bool.false_and] at e; refine Qy J J J (Qy J J J (Qy J J J (Qy J J J (Qy J J J (Qy J J J (QK J J J J (Qq J J J (Qy J J J (Qy J J J (Qy J J J (Qy J J J (Qy J J J (QK J J J J (Qq J J J (Qy J J J (Qy J J J (Qy J J J (Qy J J J (Qy J J J (Qy J J J (Qy J J J (Qy J J J (QK J J J J (Qq J J J (Qy J J J (Qy J J J (Qy J J J (Qy J J J (Qy J J J (Qy J J J (Qy J J J (Qy J J J (QK J J J J (Qv J J J (Qj (hK _ _ (Qz (Q0 ?_)))))))))))))))))))))))))))))))))))))); clear hK K; refine QU [_] rfl (Qu J QQ) (by rw [e]; rfl) J
  rw [g1, Bool.true_and] at e; refine Qq J J J (Q6 (n := 2) J J J J J lTrav J (QV J J J fCn0 J (Ops.ldNA (n := 2) J J J J (Nat.le_of_ble_eq_true J) Xm J (Qq J J J (Ops.call1 (As := [rssC l, travC om v, wrC c.wr, iksC t, boolC false]) 8 golisted (hL2 v hv m hm) J J J (fun _ h => h.elim) J (fun p hp => absurd hp (by simp)) (fun q j hq => by rcases hq with hq | ⟨_, hq⟩ <;> cases hq) (fun m' hm' => ?_)))))); refine QJ J J J J (Qq J J J (X3 39 J (fun g2 => ?_) (fun g2 => ?_))); rotate_left
  · rw [g2, Bool.false_and] at e; refine Qy J J J (Qy J J J (Qy J J J (Qy J J J (Qy J J J (QK J J J J (Qq J J J (Qy J J J (Qy J J J (Qy J J J (Qy J J J (Qy J J J (Qy J J J (Qy J J J (Qy J J J (QK J J J J (Qq J J J (Qy J J J (Qy J J J (Qy J J J (Qy J J J (Qy J J J (Qy J J J (Qy J J J (Qy J J J (QK J J J J (Qv J J J (Qj (hK _ _ (Qz (Q0 ?_)))))))))))))))))))))))))))))); clear hK K; refine QU [_] rfl (Qu J QQ) (by rw [e]; rfl) J
  rw [g2, Bool.true_and] at e; refine QV J J J fCn3 J (QY J J J J J lInt J (Qq J J J (Qb J J sIks.und (List.length_map ..) J (Qk igeq J J J J (QJ J J J J (Qq J J J (Q7 46 J (fun g3 => ?_) (fun g3 => ?_)))))))); rotate_left
  · rw [decide_eq_false g3, Bool.false_and] at e; refine Qy J J J (Qy J J J (Qy J J J (Qy J J J (Qy J J J (Qy J J J (Qy J J J (Qy J J J (QK J J J J (Qq J J J (Qy J J J (Qy J J J (Qy J J J (Qy J J J (Qy J J J (Qy J J J (Qy J J J (Qy J J J (QK J J J J (Qv J J J (Qj (hK _ _ (Qz (Q0 ?_))))))))))))))))))))))); clear hK K; refine QU [_] rfl (Qu J QQ) (by rw [e]; rfl) J
  rw [decide_eq_true g3, Bool.true_and] at e; refine QV J J J fCn1 J (QY J J J J J lInt J (Qq J J J (Qb J J sIks.und (List.length_map ..) J (Qq J J J (Qb J J sIks.und (List.length_map ..) J (Qk (iadd (by omega) (by omega)) J J J J ?_)))))); refine Qk ieql J J J J (QJ J J J J (Qq J J J (Q7 56 J (fun g4 => ?_) (fun g4 => ?_)))); rotate_left
  · rw [decide_eq_false g4, Bool.false_and] at e; refine Qy J J J (Qy J J J (Qy J J J (Qy J J J (Qy J J J (Qy J J J (Qy J J J (Qy J J J (QK J J J J (Qv J J J (Qj (hK _ _ (Qz (Q0 ?_))))))))))))); clear hK K; refine QU [_] rfl (Qu J QQ) (by rw [e]; rfl) J
  rw [decide_eq_true g4, Bool.true_and] at e; refine QV J J J fCn2 J (QY J J J J J lInt J (Qq J J J (Qb J J sIks.und (List.length_map ..) J (Qq J J J (Qk (isub (by omega) (by omega)) J J J J ?_))))); refine Ops.max2 J J J J (Qk ileq J J J J (QJ J J J J (Qv J J J (Qj (hK _ _ (Qz (Q0 ?_))))))); clear hK K; refine QU [_] rfl (Qu J QQ) (by rw [e]; rfl) J
end Go.Proofs.YtlkdkbdgnjcopaaGreat
namespace Go.Proofs.YtlkdkbdgnjcopaaGreat
open Go.Own Go.Limbs
def FnI (id : Ik) (m : List Rs) (s : Rs × Bool) : Prop :=
  (s = (rs0, false) ∧ ∀ x ∈ m, ¬ (okR x = true ∧ idOf x = id)) ∨ (s.2 = true ∧ s.1 ∈ m ∧ okR s.1 = true ∧ idOf s.1 = id ∧ ∀ x ∈ m, okR x = true → idOf x = id → cmpR s.1 x ≤ 0)
theorem fn_inv {id : Ik} : ∀ (l m : List Rs) (s : Rs × Bool), FnI id m s → FnI id (m ++ l) (l.foldl (fnS id) s)
  | [], m, s, h => by rw [List.append_nil]; exact h
  | r :: l, m, s, h => by
    rw [List.foldl_cons, show m ++ r :: l = (m ++ [r]) ++ l by simp]
    refine fn_inv l (m ++ [r]) _ ?_
    have e : fnS id s r = if idOf r = id ∧ (s.2 = false ∨ cmpR r s.1 < 0) ∧ okR r = true then (r, true) else s := rfl
    rw [e]
    have hm : ∀ x, x ∈ m ++ [r] ↔ x ∈ m ∨ x = r := fun x => by rw [List.mem_append, List.mem_singleton]
    split
    · rename_i hc
      refine .inr ⟨rfl, (hm _).2 (.inr rfl), hc.2.2, hc.1, fun x hx h1 h2 => ?_⟩
      rcases (hm x).1 hx with h3 | h3
      · rcases h with ⟨h4, h5⟩ | ⟨h4, h5, h6, h7, h8⟩
        · exact absurd ⟨h1, h2⟩ (h5 x h3)
        · have h9 : cmpR r s.1 < 0 := hc.2.1.elim (fun h => by rw [h4] at h; cases h) (fun h => h)
          have h10 := h8 x h3 h1 h2
          rcases Int.lt_or_eq_of_le h10 with h11 | h11
          · have := ordR.trans _ _ _ h9 h11; show cmpR r x ≤ 0; omega
          · rw [← ordR.eq0 _ _ h11]; show cmpR r s.1 ≤ 0; omega
      · rw [h3]; show cmpR r r ≤ 0; rw [ordR.self]; exact Int.le_refl _
    · rename_i hc
      rcases h with ⟨h4, h5⟩ | ⟨h4, h5, h6, h7, h8⟩
      · refine .inl ⟨h4, fun x hx h9 => ?_⟩
        rcases (hm x).1 hx with h3 | h3
        · exact h5 x h3 h9
        · subst h3; exact hc ⟨h9.2, .inl (by rw [h4]), h9.1⟩
      · refine .inr ⟨h4, (hm _).2 (.inl h5), h6, h7, fun x hx h1 h2 => ?_⟩
        rcases (hm x).1 hx with h3 | h3
        · exact h8 x h3 h1 h2
        · subst h3
          have h9 : ¬ cmpR x s.1 < 0 := fun h => hc ⟨h2, .inr h, h1⟩
          have := ordR.anti x s.1
          omega
theorem find_eq (l : List Rs) (id : Ik) : fiR24 l id = findF l id := by
  have h : FnI id l (findF l id) := by have := fn_inv (id := id) l [] (rs0, false) (.inl ⟨rfl, fun x hx => by cases hx⟩); rw [List.nil_append] at this; exact this
  have hs := Zt ordR (l.filter okR); generalize findF l id = s at h; unfold fiR24
  have hmem : ∀ x, x ∈ sd cmpR (l.filter okR) ↔ x ∈ l ∧ okR x = true := fun x => by rw [hs.2 x, List.mem_filter]
  have hup := hs.1; generalize sd cmpR (l.filter okR) = o at hmem hup; rcases h with ⟨h1, h2⟩ | ⟨h1, h2, h3, h4, h5⟩
  · rw [List.find?_eq_none.2 fun x hx hd => h2 x ((hmem x).1 hx).1 ⟨((hmem x).1 hx).2, of_decide_eq_true hd⟩, h1]
  · cases hf : o.find? fun r => decide (idOf r = id) with
    | none => exact absurd (decide_eq_true h4) (by have := List.find?_eq_none.1 hf s.1 ((hmem _).2 ⟨h2, h3⟩); simpa using this)
    | some x =>
      obtain ⟨h6, i, hi, h7, h8⟩ := List.find?_eq_some_iff_getElem.1 hf; obtain ⟨j, hj, h9⟩ := List.getElem_of_mem ((hmem s.1).2 ⟨h2, h3⟩); have hx : x ∈ o := h7 ▸ List.getElem_mem hi; have h10 := h5 x ((hmem x).1 hx).1 ((hmem x).1 hx).2 (of_decide_eq_true h6)
      have : x = s.1 := by
        rcases Nat.lt_trichotomy i j with q | q | q
        · have := List.pairwise_iff_getElem.1 hup i j hi hj q; rw [h7, h9] at this; have := ordR.anti x s.1; omega
        · subst q; rw [← h7, h9]
        · have := h8 j q; rw [h9, decide_eq_true h4] at this; cases this
      subst this; obtain ⟨a, b⟩ := s; dsimp only at h1; rw [h1]
theorem ls_eq (l : List Rs) (w : Wr) (an : Bool) : ∀ (ids : List Ik) (hs : Bool) (la : Rs), lsR l w an hs la ids = lsG l w an hs la ids
  | [], _, _ => rfl
  | id :: ids, hs, la => by
    unfold lsR lsG
    rw [find_eq, ls_eq l w an ids]
    generalize findF l id = f
    obtain ⟨r, ok⟩ := f
    dsimp only
    rw [cr_eq]
    cases ok with
    | false => rw [if_pos (.inl rfl)]; rfl
    | true =>
    by_cases h1 : r.an = an
    · by_cases h2 : w ∈ wayF l r
      · by_cases h3 : hs = true ∧ 0 ≤ cmpR la r
        · rw [if_pos (.inr (.inr (.inr h3)))]
          rw [h3.1, decide_eq_true h3.2]; simp
        · rw [if_neg (fun h => by
            rcases h with h | h | h | h
            · cases h
            · exact h h1
            · exact h h2
            · exact h3 h)]
          have : (hs && decide (0 ≤ cmpR la r)) = false := by
            cases hs with
            | false => rfl
            | true => rw [decide_eq_false (fun h => h3 ⟨rfl, h⟩)]; rfl
          rw [this, decide_eq_true h2, h1]; simp
      · rw [if_pos (.inr (.inr (.inl h2))), decide_eq_false h2]; simp
    · rw [if_pos (.inr (.inl h1))]
      have : (r.an == an) = false := by simpa using h1
      rw [this]; rfl
theorem ho_eq (l : List Rs) (n : Int) (c : Cn) (s t : List Ik) : hoR l n c s t = hoF l n c s t := by
  unfold hoR hoF; rw [chk_eq, ls_eq, ls_eq]; by_cases h0 : n < 0 ∨ 1048576 < n
  · rw [if_pos h0, (bd_iff n).2 h0]; rfl
  have hb : bdB n = true := by cases h : bdB n with | true => rfl | false => exact absurd ((bd_iff n).1 h) h0
  rw [if_neg h0, hb, Bool.true_and]; by_cases h1 : chkF l = 0
  · rw [if_neg (fun h => h h1), decide_eq_true h1, Bool.true_and]
  · rw [if_pos h1, decide_eq_false h1]; rfl
attribute [local irreducible] Go.Own.Fin Ok OkB OkF OkL OkM OkN OkT Ops St
def cnI (c : Cn) : List Int := [(c.wr.1.val : Int), (c.wr.2.val : Int), c.se, c.lo, c.hi]
theorem cnI_inj (a b : Cn) (h : cnI a = cnI b) : a = b := by
  obtain ⟨⟨a1, a2⟩, a3, a4, a5⟩ := a; obtain ⟨⟨b1, b2⟩, b3, b4, b5⟩ := b; simp only [cnI, List.cons.injEq, and_true, Int.ofNat_inj, _root_.Fin.val_inj] at h; obtain ⟨h1, h2, h3, h4, h5⟩ := h; rw [h1, h2, h3, h4, h5]
theorem eqCn : EqF Tryz.prog 39 37 [.u32, .u32] [.i64, .i64, .i64] := ⟨by kernel_rfl, by kernel_rfl, by kernel_rfl, by kernel_rfl, by kernel_rfl, by kernel_rfl, by kernel_rfl, by kernel_rfl⟩
section
variable {X : Ctx} {L : AL} {B : BL} {ops : Array Oper} {K : Act → World → Prop} {r : Pl} {k : Kd}
  {x y z : Operand} {d : Nat} {t t2 t' : TypeId} {pos : String} {af : Array Edge} {g : Option (Nat × Bool)}
theorem neCn (p q : Cn) (hg : gd ops L g = some true) (hx : ev L x = some (.ct (.fr (aggT (cnCs p))))) (hy : ev L y = some (.ct (.fr (aggT (cnCs q))))) (hP : X.P = Tryz.prog) (hn : Nat.blt d X.n = true)
    (h : Ops X ops r ((d, .ct (boolC (decide (¬ p = q)))) :: L) B K) : Ops X ops (.cons ⟨some d, .binOp .neq 39 x y t2, t', pos, af, g⟩ k r) L B K :=
  Ops.neK (ks := ([IntKind.u32, IntKind.u32] ++ [IntKind.i64, IntKind.i64, IntKind.i64])) (cnI p) (cnI q) hg hx hy rfl rfl (hP ▸ eqCn.flat) (by rw [hP]; kernel_rfl) hn (by
    have e : (cnI p = cnI q) ↔ p = q := ⟨cnI_inj _ _, fun h => by rw [h]⟩
    rw [decide_eq_decide.2 e, ← decide_not]; exact h)
end
theorem gorSame : InGo Tryz.prog 26 := InGo.of Tryz.func26 rfl (by decide)
set_option maxHeartbeats 4000000 in
theorem rSame_ok (a b : List Cn) (ha : a.length ≤ 100000000) : Ok Tryz.prog 26 [cnsC a, cnsC b] (boolC (decide (a = b))) := by
  refine Ok.enter Tryz.func26 J _ Tryz.ntmps26 J ?_
  intro S w; refine Qw (Qx fun K hK => ?_); refine Qv J J J (Qj (hK _ _ (Qz (Qw (Qw ?_))))); clear hK K; refine Qx (fun K hK => ?_); refine Qq J J J (Qb J J sCns.und (List.length_map ..) J (Qq J J J (Qb J J sCns.und (List.length_map ..) J (Qk ineq J J J J (Qj (hK _ _ (Qz ?_))))))); clear hK K; refine Q2 J (fun h => ?_) (fun h => ?_)
  · refine Qw (Qx fun K hK => ?_); refine Qv J J J (Qj (hK _ _ (Qz (Q0 (QZ ?_))))); clear hK K; refine QU [_] rfl (Qu J QQ) (by rw [decide_eq_false (show ¬ a = b from fun e => by subst e; exact h J)]; rfl) J
  have hab : a.length = b.length := by
    by_cases e : a.length = b.length
    · exact e
    · exact absurd (fun h2 => e (by exact_mod_cast h2)) h
  refine Q1 (Qz (Qw (Qw (Qx fun K hK => ?_)))); refine Qv J J J (Qj (hK _ _ (Qz (Q5 ?_)))); clear hK K
  refine Xx (α := Nat) (fun i => i ≤ a.length ∧ ∀ j, j < i → a.getD j cn0 = b.getD j cn0)
    (fun i => [(0, .ct (cnsC a)), (1, .ct (cnsC b)), (5, .ct (intC i))]) (fun _ => []) (fun i => a.length - i) 0 ⟨Nat.zero_le _, fun j h => absurd h (Nat.not_lt_zero _)⟩ (by exact QX J ⟨rfl, rfl, rfl, trivial⟩) ?_
  rintro i ⟨hi, hv⟩
  dsimp only at hi hv ⊢; refine Qw (Qw (Qx fun K hK => ?_)); refine Qq J J J (Qq J J J (Qb J J sCns.und (List.length_map ..) J (Qk ilss J J J J (Qj (hK _ _ (Qz ?_)))))); clear hK K; refine Q2 J (fun h2 => ?_) (fun h2 => ?_)
  · have e2 : (i : Int).toNat = i := Int.toNat_natCast i; refine Q1 (Qz (Qw (Q5 (Qw ?_)))); refine Xw mixed 9 (.p 0 (.p 1 (.p 2 (.p 4 (.p 5 (.p 6 (.f 3 (.f 7 (.p 8 .done))))))))) (by kernel_rfl) (fun K hK => ?_); refine Qq J J J (Qq J J J (Qh J J J sCns (by omega) (cns_at (by omega) (by omega)) J ?_)); refine Qq J J J (Qq J J J (Qh J J J sCns (by omega) (cns_at (by omega) (by omega)) J ?_)); skip; refine XX (n := 5) J J J lCn J J (XX (n := 5) J J J lCn J J ?_); rw [e2]; refine neCn (a.getD i cn0) (b.getD i cn0) J J J J J (Qj (hK _ _ (Qz ?_))); clear hK K; refine Q2 J (fun h3 => ?_) (fun h3 => ?_)
    · refine Qw (Qx fun K hK => ?_); refine Qv J J J (Qj (hK _ _ (Qz (Q0 (Q3 (QZ (QZ (Q3 (QZ ?_))))))))); clear hK K; refine QU [_] rfl (Qu J QQ) (by rw [decide_eq_false (show ¬ a = b from fun e => h3 (by rw [e]))]; rfl) J
    · have h3 : a.getD i cn0 = b.getD i cn0 := Decidable.not_not.1 h3; refine Q1 (Qz (Qx fun K hK => ?_)); refine Qq J J J (Qk (iadd (by omega) (by omega)) J J J J ?_); refine Qv J J J (Qj (hK _ _ (Q4 ?_))); clear hK K; refine Q8 (i + 1) (by omega) ⟨by omega, fun j hj => by rcases Nat.lt_succ_iff_lt_or_eq.1 hj with h4 | h4; exact hv j h4; subst h4; exact h3⟩ (by exact QX J ⟨rfl, rfl, by simp only [Int.natCast_add]; rfl, trivial⟩)
  · refine Qs (Qz (Qw (Qx fun K hK => ?_))); refine Qv J J J (Qj (hK _ _ (Qz (Q0 ?_)))); clear hK K; refine QU [_] rfl (Qu J QQ) (by rw [decide_eq_true (same_list (z := cn0) hab fun j hj => hv j (by omega))]; rfl) J
end Go.Proofs.YtlkdkbdgnjcopaaGreat
namespace Go.Proofs.YtlkdkbdgnjcopaaGreat
open Go.Own Go.Limbs
attribute [local irreducible] St Ops Go.Own.Fin Ok OkB OkN wpA
def eqFr (f g : Fr) : Bool := decide (f.neg = g.neg ∧ limbs f.num = limbs g.num ∧ limbs f.den = limbs g.den)
theorem eqFr_self (f : Fr) : eqFr f f = true := decide_eq_true ⟨rfl, rfl, rfl⟩
theorem ext_getD {xs ys : List Int} (hl : xs.length = ys.length) (h : ∀ j, j < xs.length → xs.getD j 0 = ys.getD j 0) : xs = ys := by
  refine List.ext_getElem hl fun j h1 h2 => ?_
  have := h j h1
  simpa [List.getD_eq_getElem?_getD, List.getElem?_eq_getElem h1, List.getElem?_eq_getElem h2] using this
theorem goEqual : InGo Tryz.prog 34 := InGo.of Tryz.func34 rfl (by decide)
set_option maxHeartbeats 4000000 in
theorem Equal_ok (f g : Fr) (hn : (limbs f.num).length ≤ 1000) (hd : (limbs f.den).length ≤ 1000) (hn2 : (limbs g.num).length ≤ 1000) (hd2 : (limbs g.den).length ≤ 1000) : Ok Tryz.prog 34 [fracC f, fracC g] (boolC (eqFr f g)) := by
  have no1 : f.neg ≠ g.neg → eqFr f g = false := fun h => decide_eq_false fun e => h e.1
  have no2 : limbs f.num ≠ limbs g.num → eqFr f g = false := fun h => decide_eq_false fun e => h e.2.1
  have no3 : limbs f.den ≠ limbs g.den → eqFr f g = false := fun h => decide_eq_false fun e => h e.2.2
  have yes : f.neg = g.neg → limbs f.num = limbs g.num → limbs f.den = limbs g.den → eqFr f g = true := fun h1 h2 h3 => decide_eq_true ⟨h1, h2, h3⟩
  generalize eqFr f g = e at no1 no2 no3 yes ⊢
  refine Ok.enter Tryz.func34 J _ Tryz.ntmps34 J ?_
  intro S w; refine Qw (Qx fun K hK => ?_); refine Xz 0 J J J J J J J (Xz 1 J J J J J J J (Qv J J J (Qj (hK _ _ (Qz (Qw (Qw ?_))))))); clear hK K; refine Qx (fun K hK => ?_); refine QV J J J fF0 J (QY J J J J J lBool J (QV J J J fF0 J (QY J J J J J lBool J (Ops.bne J J J uBool J (Qq J J J (Q7 12 J (fun h1 => ?_) (fun h1 => ?_)))))))
  · refine Qy J J J (Qy J J J (Qy J J J (Qy J J J (Qy J J J (Qy J J J (Qy J J J (QJ J J J J (Qq J J J (Qy J J J (Qy J J J (Qy J J J (Qy J J J (Qy J J J (Qy J J J (Qy J J J (QJ J J J J (Qj (hK _ _ (Qz (Qp J (Qw ?_))))))))))))))))))))); clear hK K; refine Qx (fun K hK => ?_); refine Qv J J J (Qj (hK _ _ (Qz (Q0 (QZ ?_))))); clear hK K; refine QU [_] rfl (Qu J QQ) (by rw [no1 h1]; rfl) J
  have h1 : f.neg = g.neg := Decidable.byContradiction h1; refine QV J J J fF1 J (QY J J J J J lNat J (Qb J J sNat.und (List.length_map ..) J (QV J J J fF1 J (QY J J J J J lNat J (Qb J J sNat.und (List.length_map ..) J (Qk ineq J J J J (QK J J J J (Qq J J J (Q7 21 J (fun h2 => ?_) (fun h2 => ?_))))))))))
  · refine Qy J J J (Qy J J J (Qy J J J (Qy J J J (Qy J J J (Qy J J J (Qy J J J (QJ J J J J (Qj (hK _ _ (Qz (Qp J (Qw ?_)))))))))))); clear hK K; refine Qx (fun K hK => ?_); refine Qv J J J (Qj (hK _ _ (Qz (Q0 (QZ ?_))))); clear hK K; refine QU [_] rfl (Qu J QQ) (by rw [no2 (fun h => h2 (by rw [h]))]; rfl) J
  have h2 : (limbs f.num).length = (limbs g.num).length := by
    have := Decidable.byContradiction h2; omega
  refine QV J J J fF2 J (QY J J J J J lNat J (Qb J J sNat.und (List.length_map ..) J (QV J J J fF2 J (QY J J J J J lNat J (Qb J J sNat.und (List.length_map ..) J (Qk ineq J J J J (QK J J J J (Qj (hK _ _ (Qz ?_)))))))))); clear hK K; refine Q2 J (fun h3 => ?_) (fun h3 => ?_)
  · refine Qw (Qx fun K hK => ?_); refine Qv J J J (Qj (hK _ _ (Qz (Q0 (QZ ?_))))); clear hK K; refine QU [_] rfl (Qu J QQ) (by rw [no3 (fun h => h3 (by rw [h]))]; rfl) J
  have h3 : (limbs f.den).length = (limbs g.den).length := by
    have := Decidable.byContradiction h3; omega
  refine Q1 (Qz (Qw (Qw (Qx fun K hK => ?_)))); refine Qv J J J (Qj (hK _ _ (Qz (Q5 ?_)))); clear hK K
  refine Xx (α := Nat) (fun k => k ≤ (limbs f.num).length ∧ ∀ j, j < k → (limbs f.num).getD j 0 = (limbs g.num).getD j 0)
    (fun k => [(2, .own 0), (3, .own 1), (5, .ct (intC k))]) (fun _ => [(1, .box 53 (frCs g)), (0, .box 53 (frCs f))]) (fun k => (limbs f.num).length - k) 0 ⟨Nat.zero_le _, fun j h => absurd h (Nat.not_lt_zero j)⟩ (by exact QX J ⟨rfl, rfl, rfl, trivial⟩) ?_
  intro k ⟨hk, hv⟩; dsimp only at hk ⊢; have e2 : (k : Int).toNat = k := Int.toNat_natCast k; refine Qw (Qw (Qx fun K hK => ?_)); refine Qq J J J (QV J J J fF1 J (QY J J J J J lNat J (Qb J J sNat.und (List.length_map ..) J (Qk ilss J J J J (Qj (hK _ _ (Qz ?_))))))); clear hK K; refine Q2 J (fun h => ?_) (fun h => ?_)
  · refine Q1 (Qz (Qw (Q5 (Qw ?_)))); refine Xw mixed 11 (.p 0 (.p 2 (.p 5 (.p 7 (.f 1 (.p 3 (.f 4 (.f 6 (.p 8 (.f 9 (.p 10 .done))))))))))) (by kernel_rfl) (fun K hK => ?_); refine QV J J J fF1 J (Qq J J J (QV J J J fF1 J (Qq J J J (QY J J J J J lNat J (Qh J J J sNat (by omega) (X9 (by omega) (by omega)) J ?_))))); refine XQ J J J lInt J (QY J J J J J lNat J (Qh J J J sNat (by omega) (X9 (by omega) (by omega)) J ?_)); refine XQ J J J lInt J (Qk ineq J J J J (Qj (hK _ _ (Qz ?_)))); clear hK K; refine Q2 J (fun h4 => ?_) (fun h4 => ?_)
    · rw [e2] at h4; refine Qw (Qx fun K hK => ?_); refine Qv J J J (Qj (hK _ _ (Qz (Q0 (Q3 (QZ (QZ (Q3 (QZ ?_))))))))); clear hK K; refine QU [_] rfl (Qu J QQ) (by rw [no2 (fun h => h4 (by rw [h]))]; rfl) J
    · rw [e2] at h4; have h4 := Decidable.byContradiction h4; refine Q1 (Qz (Qx fun K hK => ?_)); refine Qq J J J (Qk (iadd (by omega) (by omega)) J J J J ?_); refine Qv J J J (Qj (hK _ _ (Q4 ?_))); clear hK K; refine Q8 (k + 1) (by omega) ⟨by omega, fun j hj => ?_⟩ (by exact QX J ⟨rfl, rfl, by simp only [Int.natCast_add]; rfl, trivial⟩); rcases Nat.lt_or_ge j k with h5 | h5
      · exact hv j h5
      · have : j = k := by omega
        rw [this]; exact h4
  · have hnum : limbs f.num = limbs g.num := ext_getD h2 fun j hj => hv j (by omega)
    clear hv; refine Qs (Qz (Qw (Qw (Qx fun K hK => ?_)))); refine Qv J J J (Qj (hK _ _ (Qz (Q5 ?_)))); clear hK K
    refine Xx (α := Nat) (fun k => k ≤ (limbs f.den).length ∧ ∀ j, j < k → (limbs f.den).getD j 0 = (limbs g.den).getD j 0)
      (fun k => [(2, .own 0), (3, .own 1), (6, .ct (intC k))]) (fun _ => [(1, .box 53 (frCs g)), (0, .box 53 (frCs f))]) (fun k => (limbs f.den).length - k) 0 ⟨Nat.zero_le _, fun j h => absurd h (Nat.not_lt_zero j)⟩ (by exact QX J ⟨rfl, rfl, rfl, trivial⟩) ?_
    clear hk e2 h; clear k; intro k ⟨hk, hv⟩; dsimp only at hk ⊢; have e2 : (k : Int).toNat = k := Int.toNat_natCast k; refine Qw (Qw (Qx fun K hK => ?_)); refine Qq J J J (QV J J J fF2 J (QY J J J J J lNat J (Qb J J sNat.und (List.length_map ..) J (Qk ilss J J J J (Qj (hK _ _ (Qz ?_))))))); clear hK K; refine Q2 J (fun h => ?_) (fun h => ?_)
    · refine Q1 (Qz (Qw (Q5 (Qw ?_)))); refine Xw mixed 11 (.p 0 (.p 2 (.p 5 (.p 7 (.f 1 (.p 3 (.f 4 (.f 6 (.p 8 (.f 9 (.p 10 .done))))))))))) (by kernel_rfl) (fun K hK => ?_); refine QV J J J fF2 J (Qq J J J (QV J J J fF2 J (Qq J J J (QY J J J J J lNat J (Qh J J J sNat (by omega) (X9 (by omega) (by omega)) J ?_))))); refine XQ J J J lInt J (QY J J J J J lNat J (Qh J J J sNat (by omega) (X9 (by omega) (by omega)) J ?_)); refine XQ J J J lInt J (Qk ineq J J J J (Qj (hK _ _ (Qz ?_)))); clear hK K; refine Q2 J (fun h4 => ?_) (fun h4 => ?_)
      · rw [e2] at h4; refine Qw (Qx fun K hK => ?_); refine Qv J J J (Qj (hK _ _ (Qz (Q0 (Q3 (QZ (QZ (Q3 (QZ ?_))))))))); clear hK K; refine QU [_] rfl (Qu J QQ) (by rw [no3 (fun h => h4 (by rw [h]))]; rfl) J
      · rw [e2] at h4; have h4 := Decidable.byContradiction h4; refine Q1 (Qz (Qx fun K hK => ?_)); refine Qq J J J (Qk (iadd (by omega) (by omega)) J J J J ?_); refine Qv J J J (Qj (hK _ _ (Q4 ?_))); clear hK K; refine Q8 (k + 1) (by omega) ⟨by omega, fun j hj => ?_⟩ (by exact QX J ⟨rfl, rfl, by simp only [Int.natCast_add]; rfl, trivial⟩); rcases Nat.lt_or_ge j k with h5 | h5
        · exact hv j h5
        · have : j = k := by omega
          rw [this]; exact h4
    · have hden : limbs f.den = limbs g.den := ext_getD h3 fun j hj => hv j (by omega)
      clear hv; refine Qs (Qz (Qw (Qx fun K hK => ?_))); refine Qv J J J (Qj (hK _ _ (Qz (Q0 ?_)))); clear hK K; refine QU [_] rfl (Qu J QQ) (by rw [yes h1 hnum hden]; rfl) J
end Go.Proofs.YtlkdkbdgnjcopaaGreat
namespace Go.Proofs.YtlkdkbdgnjcopaaGreat
open Go.Own Go.Limbs
def SmC (c : Cn) : Prop := (0 ≤ c.se ∧ c.se ≤ 100000) ∧ (0 ≤ c.lo ∧ c.lo ≤ 100000) ∧ (0 ≤ c.hi ∧ c.hi ≤ 100000)
theorem both_all (y : List Rs) (hy : y.length ≤ 100) (b : Int) : ∃ (q : List Cn) (e : Int), q.length ≤ 25600 ∧
    Ok Tryz.prog 17 [rssC y, intC b] (.fr (tupT [cnsC q, intC e])) ∧ Ok Tryz.prog 25 [rssC y, intC b] (.fr (tupT [cnsC q, intC e])) ∧
    Ok Tryz.prog 26 [cnsC q, cnsC q] (boolC true) := by
  have hl := alO_len y b; refine ⟨(alO y b).1, (alO y b).2, by omega, All_ok y (by omega) b, ?_, ?_⟩
  · rw [← al_eq]; exact rAll_ok y (by omega) b
  · have h := rSame_ok (alO y b).1 (alO y b).1 (by omega); rw [decide_eq_true J] at h; exact h
theorem both_ids (s : List Ik) (hs : s.length ≤ 100) : Ok Tryz.prog 30 [iksC s, iksC s] (boolC true) := by
  have h := rSameIDs_ok s s (by omega); rw [decide_eq_true J] at h; exact h
theorem both_cr (y : List Rs) (hy : y.length ≤ 100) (w : Wr) : ∃ (s t : List Ik) (h : Int), s.length ≤ 100 ∧ t.length ≤ 100 ∧
    Ok Tryz.prog 27 [rssC y, wrC w] (.fr (tupT [iksC s, iksC t, intC h])) ∧ Ok Tryz.prog 28 [rssC y, wrC w] (.fr (tupT [iksC s, iksC t, intC h])) := by
  have hl := crRO_len y w; refine ⟨(crO y w).1, (crO y w).2.1, (crO y w).2.2, ?_, ?_, Crosses_ok y (by omega) w, ?_⟩
  · rw [← crO_eq]; omega
  · rw [← crO_eq]; omega
  · rw [← crO_eq]; exact rCrosses_ok y (by omega) w
theorem cnt_small (y : List Rs) (hy : y.length ≤ 100) (w : Wr) (b : Int) : SmC (cntF y w b).1 := by
  have h0 : SmC cn0 := ⟨⟨by decide, by decide⟩, ⟨by decide, by decide⟩, ⟨by decide, by decide⟩⟩
  have h1 : (crsF y w true).length ≤ 100 := by rw [← cs_eq]; have := csR_len y w true; omega
  have h2 : (crsF y w false).length ≤ 100 := by rw [← cs_eq]; have := csR_len y w false; omega
  unfold cntF; split
  · exact h0
  · split
    · exact h0
    · split
      · exact h0
      · exact ⟨⟨by dsimp only; omega, by dsimp only; omega⟩, ⟨by dsimp only; omega, by dsimp only; omega⟩, ⟨by dsimp only; omega, by dsimp only; omega⟩⟩
theorem both_cn (y : List Rs) (hy : y.length ≤ 100) (w : Wr) (b : Int) : ∃ (c : Cn) (i : Int), SmC c ∧
    Ok Tryz.prog 12 [rssC y, wrC w, intC b] (.fr (tupT [cnC c, intC i])) ∧ Ok Tryz.prog 29 [rssC y, wrC w, intC b] (.fr (tupT [cnC c, intC i])) := by
  refine ⟨(cntF y w b).1, (cntF y w b).2, cnt_small y hy w b, Count_ok y (by omega) w b, ?_⟩; rw [← cnt_eq]; exact rCount_ok y (by omega) w b
theorem both_ho (y : List Rs) (hy : y.length ≤ 100) (b : Int) (c : Cn) (s t : List Ik) (hs : s.length ≤ 100) (ht : t.length ≤ 100) : ∃ r : Bool,
    Ok Tryz.prog 31 [rssC y, intC b, cnC c, iksC s, iksC t] (boolC r) ∧ Ok Tryz.prog 32 [rssC y, intC b, cnC c, iksC s, iksC t] (boolC r) := by
  refine ⟨hoF y b c s t, Holds_ok y (by omega) b c s t (by omega) (by omega), ?_⟩; rw [← ho_eq]; exact rHolds_ok y (by omega) b c s t (by omega) (by omega)
theorem eq_self (f : Fr) (h1 : (limbs f.num).length ≤ 3) (h2 : (limbs f.den).length ≤ 3) : Ok Tryz.prog 34 [fracC f, fracC f] (boolC true) := by
  have h := Equal_ok f f (by omega) (by omega) (by omega) (by omega); rw [eqFr_self] at h; exact h
theorem both_rt (c : Cn) (h1 : -9223372036854775808 ≤ c.lo ∧ c.lo < 9223372036854775808) (h2 : -9223372036854775808 ≤ c.hi ∧ c.hi < 9223372036854775808) (h3 : -9223372036854775808 ≤ c.se ∧ c.se < 9223372036854775808) : ∃ (f g : Fr) (u : Int),
    Ok Tryz.prog 19 [cnC c] (.fr (tupT [fracC f, fracC g, intC u])) ∧ Ok Tryz.prog 33 [cnC c] (.fr (tupT [fracC f, fracC g, intC u])) ∧
    Ok Tryz.prog 34 [fracC f, fracC f] (boolC true) ∧ Ok Tryz.prog 34 [fracC g, fracC g] (boolC true) := by
  have k1 := Rate_gen c h1 h2 h3; have k2 := rRate_ok c h1 h2 h3; unfold rateC at k1 k2; split at k1
  · rename_i h
    rw [if_pos h] at k2
    have h0 : (limbs frZ.num).length ≤ 3 := by rw [show frZ.num = 0 from rfl, limbs_zero]; exact Nat.zero_le _
    exact ⟨frZ, frZ, 1, k1, k2, eq_self _ h0 h0, eq_self _ h0 h0⟩
  · rename_i h
    rw [if_neg h] at k2; obtain ⟨a1, a2⟩ := divInt_len c.lo c.se (by omega) h1 h3; obtain ⟨a3, a4⟩ := divInt_len c.hi c.se (by omega) h2 h3; exact ⟨_, _, 0, k1, k2, eq_self _ a1 a2, eq_self _ a3 a4⟩
end Go.Proofs.YtlkdkbdgnjcopaaGreat
