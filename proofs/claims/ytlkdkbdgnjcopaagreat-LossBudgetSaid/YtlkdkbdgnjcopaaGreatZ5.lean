/- The proof that LossBudget holds for every input, without conditions: part 5 of 5. -/
import Derived.Test.YtlkdkbdgnjcopaaGreatZ4
import Derived.ProofKit
import Derived.OpenShut
import Derived.ShutString
import Derived.ChangeOld
import Derived.DataElems
import Derived.Test.YtlkdkbdgnjcopaaGreatRows
namespace Go.Proofs.YtlkdkbdgnjcopaaGreat
open Go.Own Go.Limbs
attribute [local irreducible] Go.Own.Fin Ok Ops St
theorem uU64 : Tryz.prog.underlying 153 = some (.int .u64) := Tryz.underlying153
theorem uI64 : Tryz.prog.underlying 3 = some (.int .i64) := Tryz.underlying3
abbrev wordC (x : Int) : CT := .ex (.int .u64 x)
set_option maxHeartbeats 2000000 in
theorem rWord_ok (n : Nat) (hn : n < 18446744073709551616) : Ok Tryz.prog 99 [wordC n] (natC n) := by
  refine Ok.enter Tryz.func99 J _ Tryz.ntmps99 J ?_
  intro S w; refine Qw (Qq fun K hK => ?_); refine Qv J J J (Qj (hK _ _ (Qz (Qw ?_)))); clear hK K; refine Qq (fun K hK => ?_); refine Qv J J J (Qj (hK _ _ (Qz (Qw (Q8 ?_))))); clear hK K
  refine Zq 3 0 3 1 J J J ?_
  skip
  refine Xw (α := Nat × List Int) (fun s => s.1 ≤ n ∧ limbs n = s.2 ++ limbs s.1)
    (fun s => [(0, .ct (wordC s.1)), (3, .own 0)]) (fun s => [(0, .row 3 1 (ints s.2))]) (fun s => s.1) (n, []) ⟨Nat.le_refl _, rfl⟩ (by exact QX J ⟨rfl, rfl, trivial⟩) ?_
  rintro ⟨m, zs⟩ ⟨hm, hv⟩
  dsimp only at hm hv ⊢
  have hl : zs.length ≤ 64 := by
    have h1 := congrArg List.length hv; have h2 := Xk (n := n) (k := 3) (by omega); simp at h1; omega
  refine Qw (Qw (Qq fun K hK => ?_)); refine Qx J J J (Qk igtr J J J J (Qj (hK _ _ (Qz ?_)))); clear hK K; refine Q2 J (fun h => ?_) (fun h => ?_)
  · refine Q1 (Qz (Qw (Q8 (Qq fun K hK => ?_)))); refine Qx J J J (Qx J J J (Qk (urem (by omega) (by omega)) J J J J ?_))
    refine Ze J J uU64 uI64 (Zt (by omega) (by omega)) J ?_
    refine Xt J J sNat J J J (Qs zs.length (ints (zs ++ [(m : Int) % 1073741824])) J J J J sNat (by simp [ints]) J (by omega) (by omega) (by simp [ints]) J ?_); refine Qv J J J (Qj (hK _ _ (Qz ?_))); clear hK K; refine Qq (fun K hK => ?_); refine Qx J J J (Qk (uquo (by omega) (by omega) (by omega)) J J J J ?_); refine Qv J J J (Qj (hK _ _ (Q7 ?_))); clear hK K
    refine Qc (m / 1073741824, zs ++ [(m : Int) % 1073741824]) (by dsimp only; omega) ⟨by dsimp only; omega, ?_⟩ ?_
    all_goals dsimp only
    · rw [hv, limbs_pos (n := m) (by omega)]; simp
    · exact QX J ⟨by rw [Int.natCast_ediv]; rfl, rfl, trivial⟩
  · have : m = 0 := by omega
    subst this; rw [limbs_zero, List.append_nil] at hv; subst hv; refine St.freeze 0 _ J (Zj _ _) X3 (Xq (Qz (Qw (Qq fun K hK => ?_)))); refine Qx J J J (Qv J J J (Qj (hK _ _ (Qz (Q0 ?_))))); clear hK K; refine QU [_] rfl (Qu J QQ) J J
theorem gorWord : InGo Tryz.prog 99 := InGo.of Tryz.func99 (by kernel_rfl) (by kernel_rfl)
theorem cmpI_le {a b : Int} : cmpI a b ≤ 0 ↔ a ≤ b := by unfold cmpI; split <;> (try split) <;> omega
theorem rTimes_one (b m : Nat) (h0 : 0 < m) (h1 : m < 1073741824) (hl : (limbs b).length ≤ 100000) : Ok Tryz.prog 135 [natC b, .fr (sliceT 1 [[intC m]])] (natC (b * m)) := by
  have h := rTimes_ok b m (by rw [ZU h0 h1]; simp; omega)
  have e : natC m = .fr (sliceT 1 [[intC m]]) := by show intsC (limbs m) = _; rw [ZU h0 h1]; rfl
  rw [← e]; exact h
theorem split_step {v b r R A p x P d : Int} (K : Int) (hR : R = r * K + x) (hv : v * b + r * (P * K) = A - (p + x * P)) : (v + d * P) * b + (R - b * d) * P = A - p := by
  subst hR; grind
theorem len_lt_mul {R b k : Nat} (h : (limbs b).length ≤ k) (hR : R < b * 1073741824) : (limbs R).length ≤ k + 1 := by
  refine Xk ?_
  rw [Nat.pow_succ]; exact Nat.lt_trans hR (Nat.mul_lt_mul_of_pos_right (X2 h) (by decide))
set_option maxHeartbeats 4000000 in
theorem rSplit_ok (a b : Nat) (hb : 0 < b) (la : (limbs a).length ≤ 10000) (lb : (limbs b).length ≤ 10000) : Ok Tryz.prog 98 [natC a, natC b] (.fr (tupT [natC (a / b), natC (a % b)])) := by
  refine Ok.enter Tryz.func98 J _ Tryz.ntmps98 J ?_
  intro S w; refine Qw (Qq fun K hK => ?_); refine Qv J J J (Qv J J J (Qj (hK _ _ (Qz (Qw ?_))))); clear hK K; refine Qq (fun K hK => ?_); refine Qx J J J (Qg J J sNat.und (List.length_map ..) J (Ops.make 0 (limbs a).length J J J J sNat (by omega) (by omega) J J J ?_)); rw [ints_made]; refine Qv J J J (Qj (hK _ _ (Qz (Qw ?_)))); clear hK K; refine Qq (fun K hK => ?_); refine Qv J J J (Qj (hK _ _ (Qz (Qw (Qw ?_))))); clear hK K; refine Qq (fun K hK => ?_); refine Qx J J J (Qg J J sNat.und (List.length_map ..) J (Qk (isub (by omega) (by omega)) J J J J ?_)); refine Qv J J J (Qj (hK _ _ (Qz (Q8 ?_)))); clear hK K
  refine St.asNil 7 1 J ?_
  refine Xw (α := Nat × List Int × Nat) (fun s => s.1 ≤ (limbs a).length ∧ s.2.1.length = (limbs a).length ∧ OKL s.2.1 ∧ (∀ j, j < s.1 → s.2.1.getD j 0 = 0) ∧ s.2.2 < b ∧ val s.2.1 * b + s.2.2 * BB ^ s.1 = val (limbs a) - pre (limbs a) s.1)
    (fun s => [(0, .ct (natC a)), (1, .ct (natC b)), (6, .own 0), (7, .ct (natC s.2.2)), (8, .ct (intC ((s.1 : Int) - 1)))])
    (fun s => [(0, .row 3 1 (ints s.2.1))]) (fun s => s.1) ((limbs a).length, List.replicate (limbs a).length 0, 0) ⟨Nat.le_refl _, by simp, OKL.zeros _, ?_, hb, ?_⟩ (by exact QX J ⟨rfl, rfl, rfl, by rw [natC_zero]; rfl, rfl, trivial⟩) ?_
  · intro j _; simp [List.getD_eq_getElem?_getD, List.getElem?_replicate]; split <;> rfl
  · dsimp only; rw [val_zeros, Zp (Nat.le_refl _)]; simp
  rintro ⟨q, zs, rr⟩ ⟨hq, hzl, hok, hz, hrb, hv⟩
  dsimp only at hq hzl hok hz hrb hv ⊢; refine Qw (Qw (Qq fun K hK => ?_)); refine Qx J J J (Qk igeq J J J J (Qj (hK _ _ (Qz ?_)))); clear hK K; refine Q2 J (fun h => ?_) (fun h => ?_)
  · obtain ⟨i, rfl⟩ : ∃ i, q = i + 1 := ⟨q - 1, by omega⟩
    have e1 : (((i + 1 : Nat) : Int) - 1) = (i : Int) := by omega
    have e2 : (i : Int).toNat = i := Int.toNat_natCast i
    have e3 : (i : Int).toNat * 1 = i := by omega
    have bx := (Xi a).get i; simp only [BB] at bx; obtain ⟨R, hR⟩ : ∃ R : Nat, (R : Int) = rr * 1073741824 + (limbs a).getD i 0 := ⟨((rr : Int) * 1073741824 + (limbs a).getD i 0).toNat, by omega⟩; have lrr : (limbs rr).length ≤ 10000 := Nat.le_trans (Xa (Nat.le_of_lt hrb)) lb
    have eT : trimL ((limbs a).getD i 0 :: limbs rr) = limbs R := by
      rw [Z7 (OKL.cons (by simp only [BB]; omega) (Xi rr))]; simp only [val]; rw [ZY]; congr 1; simp only [BB]; omega
    have hRb : R < b * 1073741824 := by
      have h1 : (rr + 1) * 1073741824 ≤ b * 1073741824 := Nat.mul_le_mul_right _ (by omega); omega
    have lR : (limbs R).length ≤ 10001 := len_lt_mul lb hRb; rw [Xr, Int.pow_succ] at hv; rw [e1]; refine Q1 (Qz (Qw (Q8 (Qw (Qq fun K hK => ?_))))); refine Qx J J J (Qx J J J (Qn J J J sNat (by omega) (X5 (by omega) (by omega)) J ?_))
    refine XZ J J J lInt J ?_
    rw [e2]; refine Ops.lit1E 1 J J sNat J J J J J (Qx J J J (Ops.append 1 (ints ((limbs a).getD i 0 :: limbs rr)) J J J J sNat J ?_ (by simp; omega) (by simp; omega) ?_ J ?_))
    · rw [flat_one]; exact ints_ones _
    · rw [flat_one]; rfl
    refine Xp 1 _ J (Zj _ _) X3 (QY gorTrim (rTrim_ok _ (by simp; omega)) J J J J ?_); rw [eT]; refine Qv J J J (Qj (hK _ _ (Qz (Qw (Qw ?_))))); clear hK K; refine Qq (fun K hK => ?_); refine Qx J J J (Qx J J J (QY gorCompare (rCompare_ok R b (by omega) (by omega)) J J J J ?_)); refine Qk ilss J J J J (Qj (hK _ _ (Qz ?_))); clear hK K; refine Q2 J (fun h2 => ?_) (fun h2 => ?_)
    · rw [cmpI_neg] at h2; refine Xq (Qz (Qq fun K hK => ?_)); refine Qx J J J (Qk (isub (by omega) (by omega)) J J J J ?_); refine Qv J J J (Qj (hK _ _ (Q7 ?_))); clear hK K; refine Qc (i, zs, R) (by dsimp only; omega) ⟨by dsimp only; omega, hzl, hok, fun j hj => hz j (by dsimp only at hj; omega), by dsimp only; omega, ?_⟩ (by exact QX J ⟨rfl, rfl, rfl, rfl, rfl, trivial⟩); dsimp only; have := split_step (d := 0) BB hR hv
      simpa using this
    · rw [cmpI_neg] at h2; refine Q1 (Qz (Qw (Qq fun K hK => ?_))); refine Qv J J J (Qv J J J (Qj (hK _ _ (Qz (Qw (Q8 ?_)))))); clear hK K
      refine Xw (α := Nat × Nat) (fun s => 1 ≤ s.1 ∧ s.1 ≤ s.2 ∧ s.2 ≤ 1073741823 ∧ b * s.1 ≤ R ∧ R < b * (s.2 + 1))
        (fun s => [(0, .ct (natC a)), (1, .ct (natC b)), (6, .own 0), (7, .ct (natC R)), (8, .ct (intC i)), (9, .ct (intC s.1)), (10, .ct (intC s.2))])
        (fun _ => [(0, .row 3 1 (ints zs))]) (fun s => s.2 - s.1) (1, 1073741823) ⟨Nat.le_refl _, by decide, Nat.le_refl _, by omega, hRb⟩ (by exact QX J ⟨rfl, rfl, rfl, rfl, rfl, rfl, rfl, trivial⟩) ?_
      rintro ⟨lo, hi⟩ ⟨k1, k2, k3, k4, k5⟩
      dsimp only at k1 k2 k3 k4 k5 ⊢; refine Qw (Qw (Qq fun K hK => ?_)); refine Qx J J J (Qx J J J (Qk ilss J J J J (Qj (hK _ _ (Qz ?_))))); clear hK K; refine Q2 J (fun h3 => ?_) (fun h3 => ?_)
      · obtain ⟨m, hm⟩ : ∃ m : Nat, m = (lo + hi + 1) / 2 := ⟨_, rfl⟩
        have em : ((lo : Int) + hi + 1) / 2 = (m : Int) := by omega
        have lbm : (limbs (b * m)).length ≤ 10001 := Nat.le_trans limbs_mul_len (by
          have := Xk (n := m) (k := 1) (by omega)
          omega)
        refine Q1 (Qz (Q8 (Qw (Qq fun K hK => ?_)))); refine Qx J J J (Qx J J J (Qk (iadd (by omega) (by omega)) J J J J ?_))
        refine Qk (iadd (by omega) (by omega)) J J J J ?_
        refine Qk (iquo (by omega) (by omega) (by omega)) J J J J ?_
        refine Qv J J J (Qj (hK _ _ (Qz (Qw ?_)))); clear hK K; refine Qq (fun K hK => ?_); refine Qx J J J (Qx J J J ?_); rw [em]; skip; refine Xt J J sNat J J J (QY gorTimes (rTimes_one b m (by omega) (by omega) (by omega)) J J J J ?_); refine Qx J J J (QY gorCompare (rCompare_ok (b * m) R (by omega) (by omega)) J J J J ?_); refine Qk ileq J J J J (Qj (hK _ _ (Qz ?_))); clear hK K; refine Q2 J (fun h4 => ?_) (fun h4 => ?_)
        · rw [cmpI_le] at h4; refine Qq (fun K hK => ?_); refine Qx J J J (Qv J J J (Qj (hK _ _ (Qb (Q7 ?_))))); clear hK K; refine Qc (m, hi) (by dsimp only; omega) ⟨by dsimp only; omega, by dsimp only; omega, k3, by dsimp only; omega, k5⟩ (by exact QX J ⟨rfl, rfl, rfl, rfl, rfl, rfl, rfl, trivial⟩)
        · rw [cmpI_le] at h4; refine Qq (fun K hK => ?_); refine Qx J J J (Qk (isub (by omega) (by omega)) J J J J ?_); refine Qv J J J (Qj (hK _ _ (Qb (Q7 ?_)))); clear hK K; refine Qc (lo, m - 1) (by dsimp only; omega) ⟨k1, by dsimp only; omega, by dsimp only; omega, k4, ?_⟩ (by exact QX J ⟨rfl, rfl, rfl, rfl, rfl, rfl, by rw [show ((m - 1 : Nat) : Int) = (m : Int) - 1 by omega]; rfl, trivial⟩); dsimp only; rw [show m - 1 + 1 = m by omega]; omega
      · have h6 : lo = hi := by omega
        subst h6
        have lbm : (limbs (b * lo)).length ≤ 10001 := Nat.le_trans limbs_mul_len (by
          have := Xk (n := lo) (k := 1) (by omega)
          omega)
        refine Xq (Qz (Qw (Qq fun K hK => ?_))); refine Qx J J J (Qx J J J (Qx J J J (ZK (limbs a).length J J J (by simp [ints]; omega) J sNat (by omega) (by omega) J ?_))); rw [e3]
        refine X6 J J J J J zInt (by simp [Ent.cs, ints]; omega) ?_
        simp only [Ent.setc, ints_set]; refine Qj (hK _ _ (Qz ?_)); clear hK K; refine Qq (fun K hK => ?_); refine Qx J J J (Qx J J J (Qx J J J (Xt J J sNat J J J (QY gorTimes (rTimes_one b lo (by omega) (by omega) (by omega)) J J J J ?_))))
        refine QY gorLess (rLess_ok R (b * lo) k4 (by omega)) J J J J ?_
        refine Qv J J J (Qj (hK _ _ (Qz ?_))); clear hK K; refine Qq (fun K hK => ?_); refine Qx J J J (Qk (isub (by omega) (by omega)) J J J J ?_); refine Qv J J J (Qj (hK _ _ (Q7 ?_))); clear hK K; refine Qc (i, zs.set i (lo : Int), R - b * lo) (by dsimp only; omega) ⟨by dsimp only; omega, by simp [hzl], ?_, ?_, ?_, ?_⟩ (by exact QX J ⟨rfl, rfl, rfl, rfl, rfl, trivial⟩)
        all_goals dsimp only
        · exact hok.set _ (by simp only [BB]; omega)
        · intro j hj; rw [getD_set (by omega), if_neg (by omega)]; exact hz j (by omega)
        · rw [Nat.mul_add] at k5; omega
        · rw [val_set (by omega), hz i (by omega), Int.sub_zero, show ((R - b * lo : Nat) : Int) = (R : Int) - b * lo by rw [Int.natCast_sub k4, Int.natCast_mul]]; exact split_step BB hR hv
  · have hq0 : q = 0 := by omega
    subst hq0
    have e4 : val zs * b + rr = a := by rw [Z8, ZY] at hv; simpa using hv
    have hvz := val_nonneg hok; obtain ⟨Q, hQ⟩ : ∃ Q : Nat, val zs = Q := ⟨(val zs).toNat, by omega⟩; rw [hQ] at e4
    have e4' : a = rr + Q * b := by
      have : ((Q * b + rr : Nat) : Int) = a := by rw [Int.natCast_add, Int.natCast_mul]; exact e4
      omega
    have e5 : a / b = Q ∧ a % b = rr := by
      rw [e4']; constructor
      · rw [Nat.add_mul_div_right _ _ hb, Nat.div_eq_of_lt hrb]; omega
      · rw [Nat.add_mul_mod_self_right, Nat.mod_eq_of_lt hrb]
    refine St.freeze 0 _ J (Zj _ _) X3 (Xq (Qz (Qw (Qq fun K hK => ?_)))); refine Qx J J J (QY gorTrim (rTrim_ok zs (by omega)) J J J J ?_); rw [Z7 hok, hQ, Int.toNat_natCast]; refine Qx J J J (Qv J J J (Qv J J J (Qj (hK _ _ (Qz (Q0 ?_)))))); clear hK K; refine QU [_, _] rfl (Qu J (Qu J QQ)) (by rw [e5.1, e5.2]; rfl) J
theorem gorSplit : InGo Tryz.prog 98 := InGo.of Tryz.func98 (by kernel_rfl) (by kernel_rfl)
theorem limbs_get0 {x : Nat} (h : x ≠ 0) : (limbs x).getD 0 0 = ((x % 1073741824 : Nat) : Int) := by rw [limbs_pos h]; rfl
theorem gcd_half {x y : Nat} (hx : x % 2 = 0) (hy : y % 2 = 1) : Nat.gcd (x / 2) y = Nat.gcd x y := by
  have e : x = 2 * (x / 2) := by omega
  have hc : Nat.Coprime 2 y := by
    unfold Nat.Coprime; rw [Nat.gcd_rec, hy]; rfl
  conv => rhs; rw [e]
  exact (hc.gcd_mul_left_cancel _).symm
theorem gcd_two {x y : Nat} (hx : x % 2 = 0) (hy : y % 2 = 0) : 2 * Nat.gcd (x / 2) (y / 2) = Nat.gcd x y := by
  rw [← Nat.gcd_mul_left, show 2 * (x / 2) = x by omega, show 2 * (y / 2) = y by omega]
theorem gcd_less {x y : Nat} (h : y ≤ x) : Nat.gcd (x - y) y = Nat.gcd x y := by
  conv => rhs; rw [show x = (x - y) + y by omega]
  rw [Nat.gcd_add_self_left]
theorem len_add {x y k : Nat} (h1 : x < 1073741824 ^ k) (h2 : y < 1073741824 ^ k) : (limbs (x + y)).length ≤ k + 1 := by
  refine Xk ?_
  rw [Nat.pow_succ]; omega
set_option maxHeartbeats 8000000 in
theorem rGcd_ok (a b : Nat) (la : (limbs a).length ≤ 10000) (lb : (limbs b).length ≤ 10000) : Ok Tryz.prog 97 [natC a, natC b] (natC (Nat.gcd a b)) := by
  refine Ok.enter Tryz.func97 J _ Tryz.ntmps97 J ?_
  intro S w; refine Qw (Qq fun K hK => ?_); refine Qv J J J (Qj (hK _ _ (Qz (Qw (Qw ?_))))); clear hK K; refine Qq (fun K hK => ?_); refine Qx J J J (Qg J J sNat.und (List.length_map ..) J (Qk ieql J J J J (Qx J J J ?_)))
  have early : (limbs a).length = 0 ∨ (limbs b).length = 0 → natC (Nat.gcd a b) = natC (a + b) := by
    rintro (h | h)
    · have : a = 0 := Zo (List.eq_nil_of_length_eq_zero h); subst this; simp
    · have : b = 0 := Zo (List.eq_nil_of_length_eq_zero h); subst this; simp
  refine Q4 9 J (fun g1 => ?_) (fun g1 => ?_)
  · have ee := early (.inl (by omega)); refine Qy J J J (Qy J J J (Qy J J J (QV J J J J (Qj (hK _ _ (Qz (Qo J (Qw ?_)))))))); clear hK K; refine Qq (fun K hK => ?_); refine Qx J J J (Qx J J J (QY gorPlus (rPlus_ok a b (by omega) (by omega)) J J J J ?_)); refine Qv J J J (Qj (hK _ _ (Qz (Q0 (QW ?_))))); clear hK K; refine QU [_] rfl (Qu J QQ) (by rw [ee]; rfl) J
  · refine Qx J J J (Qg J J sNat.und (List.length_map ..) J (Qk ieql J J J J (QK J J J J (Qj (hK _ _ (Qz ?_)))))); clear hK K; refine Q2 J (fun g2 => ?_) (fun g2 => ?_)
    · have ee := early (.inr (by omega)); refine Qw (Qq fun K hK => ?_); refine Qx J J J (Qx J J J (QY gorPlus (rPlus_ok a b (by omega) (by omega)) J J J J ?_)); refine Qv J J J (Qj (hK _ _ (Qz (Q0 (QW ?_))))); clear hK K; refine QU [_] rfl (Qu J QQ) (by rw [ee]; rfl) J
    · have ha0 : a ≠ 0 := limbs_len_pos.mp (by omega); have hb0 : b ≠ 0 := limbs_len_pos.mp (by omega); clear early
      have e11 : natC 1 = .fr (sliceT 1 [[intC 1]]) := by show intsC (limbs 1) = _; rw [ZU (by decide) (by decide)]; rfl
      have h00 : (0 : Int).toNat = 0 := rfl; refine Q1 (Qz (Qw (Qq fun K hK => ?_)))
      refine Xt J J sNat J J J ?_
      rw [← e11]; refine Qv J J J (Qj (hK _ _ (Qz (Qw (Q8 ?_))))); clear hK K
      refine Xw (α := Nat × Nat × Nat) (fun s => 0 < s.1 ∧ 0 < s.2.1 ∧ 0 < s.2.2 ∧ s.1 ≤ a ∧ s.2.1 ≤ b ∧ s.2.2 * s.1 ≤ a ∧ s.2.2 * Nat.gcd s.1 s.2.1 = Nat.gcd a b)
        (fun s => [(0, .ct (natC s.1)), (1, .ct (natC s.2.1)), (5, .ct (natC s.2.2))]) (fun _ => []) (fun s => s.1) (a, b, 1) ⟨by dsimp only; omega, by dsimp only; omega, Nat.one_pos, Nat.le_refl _, Nat.le_refl _, by dsimp only; omega, by dsimp only; omega⟩ (by exact QX J ⟨rfl, rfl, rfl, trivial⟩) ?_
      rintro ⟨x, y, u⟩ ⟨hx, hy, hu, hxa, hyb, hua, hg⟩
      dsimp only at hx hy hu hxa hyb hua hg ⊢; have lx : (limbs x).length ≤ 10000 := Nat.le_trans (Xa hxa) la; have ly : (limbs y).length ≤ 10000 := Nat.le_trans (Xa hyb) lb; have lu : (limbs u).length ≤ 10000 := Nat.le_trans (Xa (Nat.le_trans (Nat.le_mul_of_pos_right u hx) hua)) la; have px := limbs_len_pos.mpr (show x ≠ 0 by omega); have py := limbs_len_pos.mpr (show y ≠ 0 by omega); have gx := limbs_get0 (show x ≠ 0 by omega); have gy := limbs_get0 (show y ≠ 0 by omega); refine Qw (Qw (Qq fun K hK => ?_)); refine Qx J J J (Qn J J J sNat (by omega) (X5 (by omega) (by omega)) J ?_)
      refine XZ J J J lInt J ?_
      rw [h00, gx]
      refine Qk (irem (by omega) (by omega)) J J J J ?_
      refine Qk ieql J J J J (Qx J J J (Q4 23 J (fun g3 => ?_) (fun g3 => ?_)))
      · refine Qx J J J (Qn J J J sNat (by omega) (X5 (by omega) (by omega)) J ?_)
        refine XZ J J J lInt J ?_
        rw [h00, gy]
        refine Qk (irem (by omega) (by omega)) J J J J ?_
        refine Qk ieql J J J J (QV J J J J (Qj (hK _ _ (Qz ?_)))); clear hK K; refine Q2 J (fun g4 => ?_) (fun g4 => ?_)
        · refine Q1 (Qz (Q8 (Qq fun K hK => ?_))); refine Qx J J J (QY gorhalf (rhalf_ok x (by omega)) J J J J ?_); refine Qx J J J (QY gorhalf (rhalf_ok y (by omega)) J J J J ?_); refine Qx J J J (Qx J J J (QY gorPlus (rPlus_ok u u (by omega) (by omega)) J J J J ?_)); refine Qv J J J (Qv J J J (Qv J J J (Qj (hK _ _ (Qb (Q7 ?_)))))); clear hK K; have q1 := gcd_two (x := x) (y := y) (by omega) (by omega); refine Qc (x / 2, y / 2, u + u) (by dsimp only; omega) ⟨by dsimp only; omega, by dsimp only; omega, by dsimp only; omega, by dsimp only; omega, by dsimp only; omega, ?_, ?_⟩ (by exact QX J ⟨rfl, rfl, rfl, trivial⟩)
          · dsimp only; rw [← Nat.two_mul, Nat.mul_comm 2 u, Nat.mul_assoc, show 2 * (x / 2) = x by omega]; exact hua
          · dsimp only; rw [← Nat.two_mul, Nat.mul_comm 2 u, Nat.mul_assoc, q1]; exact hg
        · have hodd : x % 2 = 1 ∨ y % 2 = 1 := by omega
          clear g3 g4 gx gy; refine Xq (Qz (Qw (Q8 ?_)))
          refine Xw (α := Nat × Nat) (fun s => s.1 ≤ a ∧ s.2 ≤ b ∧ (s.1 % 2 = 1 ∨ s.2 % 2 = 1) ∧ u * Nat.gcd s.1 s.2 = Nat.gcd a b)
            (fun s => [(0, .ct (natC s.1)), (1, .ct (natC s.2)), (5, .ct (natC u))]) (fun _ => []) (fun s => s.1 + s.2) (x, y) ⟨hxa, hyb, hodd, hg⟩ (by exact QX J ⟨rfl, rfl, rfl, trivial⟩) ?_
          clear hodd hg hxa hyb hua px py lx ly hx hy
          rintro ⟨p, q⟩ ⟨hpa, hqb, hodd, hg⟩
          dsimp only at hpa hqb hodd hg ⊢; have lp : (limbs p).length ≤ 10000 := Nat.le_trans (Xa hpa) la; have lq : (limbs q).length ≤ 10000 := Nat.le_trans (Xa hqb) lb
          have done : p = 0 ∨ q = 0 → natC (Nat.gcd a b) = natC (u * (p + q)) := by
            rintro (h | h)
            · subst h; rw [← hg]; simp
            · subst h; rw [← hg]; simp
          have lpq : (limbs (p + q)).length ≤ 10001 := by
            have h1 := X2 lp; have h2 := X2 lq; exact len_add h1 h2
          refine Qw (Qw (Qq fun K hK => ?_)); refine Qx J J J (Qg J J sNat.und (List.length_map ..) J (Qk igtr J J J J (Qx J J J (Q4 40 J (fun g5 => ?_) (fun g5 => ?_)))))
          · refine Qx J J J (Qg J J sNat.und (List.length_map ..) J (Qk igtr J J J J (QV J J J J (Qj (hK _ _ (Qz ?_)))))); clear hK K; refine Q2 J (fun g6 => ?_) (fun g6 => ?_)
            · have hp0 : p ≠ 0 := limbs_len_pos.mp (by omega); have hq0 : q ≠ 0 := limbs_len_pos.mp (by omega); have gp := limbs_get0 hp0; have gq := limbs_get0 hq0; clear done; refine Q1 (Qz (Q8 (Q8 (Qw (Qq fun K hK => ?_))))); refine Qx J J J (Qn J J J sNat (by omega) (X5 (by omega) (by omega)) J ?_)
              refine XZ J J J lInt J ?_
              rw [h00, gp]
              refine Qk (irem (by omega) (by omega)) J J J J ?_
              refine Qk ieql J J J J (Qv J J J (Qj (hK _ _ (Qz ?_)))); clear hK K; refine Q2 J (fun g7 => ?_) (fun g7 => ?_)
              · have q1 := gcd_half (x := p) (y := q) (by omega) (by omega); refine Qq (fun K hK => ?_); refine Qx J J J (QY gorhalf (rhalf_ok p (by omega)) J J J J ?_); refine Qv J J J (Qj (hK _ _ (Qb (Qb (Q7 ?_))))); clear hK K; refine Qc (p / 2, q) (by dsimp only; omega) ⟨by dsimp only; omega, hqb, by dsimp only; omega, by dsimp only; rw [q1]; exact hg⟩ (by exact QX J ⟨rfl, rfl, rfl, trivial⟩)
              · refine Qw (Qq fun K hK => ?_); refine Qx J J J (Qn J J J sNat (by omega) (X5 (by omega) (by omega)) J ?_)
                refine XZ J J J lInt J ?_
                rw [h00, gq]
                refine Qk (irem (by omega) (by omega)) J J J J ?_
                refine Qk ieql J J J J (Qv J J J (Qj (hK _ _ (Qz ?_)))); clear hK K; refine Q2 J (fun g8 => ?_) (fun g8 => ?_)
                · have q1 := gcd_half (x := q) (y := p) (by omega) (by omega); refine Qq (fun K hK => ?_); refine Qx J J J (QY gorhalf (rhalf_ok q (by omega)) J J J J ?_); refine Qv J J J (Qj (hK _ _ (Qb (Qb (Q7 ?_))))); clear hK K; refine Qc (p, q / 2) (by dsimp only; omega) ⟨hpa, by dsimp only; omega, by dsimp only; omega, by dsimp only; rw [Nat.gcd_comm, q1, Nat.gcd_comm]; exact hg⟩ (by exact QX J ⟨rfl, rfl, rfl, trivial⟩)
                · refine Qw (Qq fun K hK => ?_); refine Qx J J J (Qx J J J (QY gorCompare (rCompare_ok p q (by omega) (by omega)) J J J J ?_)); refine Qk igeq J J J J (Qv J J J (Qj (hK _ _ (Qz ?_)))); clear hK K; refine Q2 J (fun g9 => ?_) (fun g9 => ?_)
                  · have hle : q ≤ p := by have := cmpI_neg (a := p) (b := q); omega
                    have q1 := gcd_less hle; refine Qq (fun K hK => ?_); refine Qx J J J (Qx J J J (QY gorLess (rLess_ok p q hle (by omega)) J J J J ?_)); refine Qv J J J (Qj (hK _ _ (Qb (Qb (Q7 ?_))))); clear hK K; refine Qc (p - q, q) (by dsimp only; omega) ⟨by dsimp only; omega, hqb, by dsimp only; omega, by dsimp only; rw [q1]; exact hg⟩ (by exact QX J ⟨rfl, rfl, rfl, trivial⟩)
                  · have hle : p ≤ q := by have := cmpI_neg (a := p) (b := q); omega
                    have q1 := gcd_less hle; refine Qq (fun K hK => ?_); refine Qx J J J (Qx J J J (QY gorLess (rLess_ok q p hle (by omega)) J J J J ?_)); refine Qv J J J (Qj (hK _ _ (Qb (Qb (Q7 ?_))))); clear hK K; refine Qc (p, q - p) (by dsimp only; omega) ⟨hpa, by dsimp only; omega, by dsimp only; omega, by dsimp only; rw [Nat.gcd_comm, q1, Nat.gcd_comm]; exact hg⟩ (by exact QX J ⟨rfl, rfl, rfl, trivial⟩)
            · have hd := done (.inr (Zo (List.eq_nil_of_length_eq_zero (by omega)))); refine Xq (Qz (Qw (Qq fun K hK => ?_))); refine Qx J J J (Qx J J J (Qx J J J (QY gorPlus (rPlus_ok p q (by omega) (by omega)) J J J J ?_)))
              refine QY gorTimes (rTimes_ok u (p + q) (by omega)) J J J J ?_
              refine Qv J J J (Qj (hK _ _ (Qz (Q0 ?_)))); clear hK K; refine QU [_] rfl (Qu J QQ) (by rw [hd]; rfl) J
          · have hd := done (.inl (Zo (List.eq_nil_of_length_eq_zero (by omega)))); refine Qy J J J (Qy J J J (Qy J J J (QK J J J J (Qj (hK _ _ (Qz (Xu J (Xq (Qz (Qw ?_)))))))))); clear hK K; refine Qq (fun K hK => ?_); refine Qx J J J (Qx J J J (Qx J J J (QY gorPlus (rPlus_ok p q (by omega) (by omega)) J J J J ?_)))
            refine QY gorTimes (rTimes_ok u (p + q) (by omega)) J J J J ?_
            refine Qv J J J (Qj (hK _ _ (Qz (Q0 ?_)))); clear hK K; refine QU [_] rfl (Qu J QQ) (by rw [hd]; rfl) J
      · have hodd : x % 2 = 1 ∨ y % 2 = 1 := by omega
        clear g3 gx gy; refine Qy J J J (Qy J J J (Qy J J J (Qy J J J (Qy J J J (QK J J J J (Qj (hK _ _ (Qz (Xu J (Xq (Qz (Qw (Q8 ?_))))))))))))); clear hK K
        refine Xw (α := Nat × Nat) (fun s => s.1 ≤ a ∧ s.2 ≤ b ∧ (s.1 % 2 = 1 ∨ s.2 % 2 = 1) ∧ u * Nat.gcd s.1 s.2 = Nat.gcd a b)
          (fun s => [(0, .ct (natC s.1)), (1, .ct (natC s.2)), (5, .ct (natC u))]) (fun _ => []) (fun s => s.1 + s.2) (x, y) ⟨hxa, hyb, hodd, hg⟩ (by exact QX J ⟨rfl, rfl, rfl, trivial⟩) ?_
        clear hodd hg hxa hyb hua px py lx ly hx hy
        rintro ⟨p, q⟩ ⟨hpa, hqb, hodd, hg⟩
        dsimp only at hpa hqb hodd hg ⊢; have lp : (limbs p).length ≤ 10000 := Nat.le_trans (Xa hpa) la; have lq : (limbs q).length ≤ 10000 := Nat.le_trans (Xa hqb) lb
        have done : p = 0 ∨ q = 0 → natC (Nat.gcd a b) = natC (u * (p + q)) := by
          rintro (h | h)
          · subst h; rw [← hg]; simp
          · subst h; rw [← hg]; simp
        have lpq : (limbs (p + q)).length ≤ 10001 := by
          have h1 := X2 lp; have h2 := X2 lq; exact len_add h1 h2
        refine Qw (Qw (Qq fun K hK => ?_)); refine Qx J J J (Qg J J sNat.und (List.length_map ..) J (Qk igtr J J J J (Qx J J J (Q4 40 J (fun g5 => ?_) (fun g5 => ?_)))))
        · refine Qx J J J (Qg J J sNat.und (List.length_map ..) J (Qk igtr J J J J (QV J J J J (Qj (hK _ _ (Qz ?_)))))); clear hK K; refine Q2 J (fun g6 => ?_) (fun g6 => ?_)
          · have hp0 : p ≠ 0 := limbs_len_pos.mp (by omega); have hq0 : q ≠ 0 := limbs_len_pos.mp (by omega); have gp := limbs_get0 hp0; have gq := limbs_get0 hq0; clear done; refine Q1 (Qz (Q8 (Q8 (Qw (Qq fun K hK => ?_))))); refine Qx J J J (Qn J J J sNat (by omega) (X5 (by omega) (by omega)) J ?_)
            refine XZ J J J lInt J ?_
            rw [h00, gp]
            refine Qk (irem (by omega) (by omega)) J J J J ?_
            refine Qk ieql J J J J (Qv J J J (Qj (hK _ _ (Qz ?_)))); clear hK K; refine Q2 J (fun g7 => ?_) (fun g7 => ?_)
            · have q1 := gcd_half (x := p) (y := q) (by omega) (by omega); refine Qq (fun K hK => ?_); refine Qx J J J (QY gorhalf (rhalf_ok p (by omega)) J J J J ?_); refine Qv J J J (Qj (hK _ _ (Qb (Qb (Q7 ?_))))); clear hK K; refine Qc (p / 2, q) (by dsimp only; omega) ⟨by dsimp only; omega, hqb, by dsimp only; omega, by dsimp only; rw [q1]; exact hg⟩ (by exact QX J ⟨rfl, rfl, rfl, trivial⟩)
            · refine Qw (Qq fun K hK => ?_); refine Qx J J J (Qn J J J sNat (by omega) (X5 (by omega) (by omega)) J ?_)
              refine XZ J J J lInt J ?_
              rw [h00, gq]
              refine Qk (irem (by omega) (by omega)) J J J J ?_
              refine Qk ieql J J J J (Qv J J J (Qj (hK _ _ (Qz ?_)))); clear hK K; refine Q2 J (fun g8 => ?_) (fun g8 => ?_)
              · have q1 := gcd_half (x := q) (y := p) (by omega) (by omega); refine Qq (fun K hK => ?_); refine Qx J J J (QY gorhalf (rhalf_ok q (by omega)) J J J J ?_); refine Qv J J J (Qj (hK _ _ (Qb (Qb (Q7 ?_))))); clear hK K; refine Qc (p, q / 2) (by dsimp only; omega) ⟨hpa, by dsimp only; omega, by dsimp only; omega, by dsimp only; rw [Nat.gcd_comm, q1, Nat.gcd_comm]; exact hg⟩ (by exact QX J ⟨rfl, rfl, rfl, trivial⟩)
              · refine Qw (Qq fun K hK => ?_); refine Qx J J J (Qx J J J (QY gorCompare (rCompare_ok p q (by omega) (by omega)) J J J J ?_)); refine Qk igeq J J J J (Qv J J J (Qj (hK _ _ (Qz ?_)))); clear hK K; refine Q2 J (fun g9 => ?_) (fun g9 => ?_)
                · have hle : q ≤ p := by have := cmpI_neg (a := p) (b := q); omega
                  have q1 := gcd_less hle; refine Qq (fun K hK => ?_); refine Qx J J J (Qx J J J (QY gorLess (rLess_ok p q hle (by omega)) J J J J ?_)); refine Qv J J J (Qj (hK _ _ (Qb (Qb (Q7 ?_))))); clear hK K; refine Qc (p - q, q) (by dsimp only; omega) ⟨by dsimp only; omega, hqb, by dsimp only; omega, by dsimp only; rw [q1]; exact hg⟩ (by exact QX J ⟨rfl, rfl, rfl, trivial⟩)
                · have hle : p ≤ q := by have := cmpI_neg (a := p) (b := q); omega
                  have q1 := gcd_less hle; refine Qq (fun K hK => ?_); refine Qx J J J (Qx J J J (QY gorLess (rLess_ok q p hle (by omega)) J J J J ?_)); refine Qv J J J (Qj (hK _ _ (Qb (Qb (Q7 ?_))))); clear hK K; refine Qc (p, q - p) (by dsimp only; omega) ⟨hpa, by dsimp only; omega, by dsimp only; omega, by dsimp only; rw [Nat.gcd_comm, q1, Nat.gcd_comm]; exact hg⟩ (by exact QX J ⟨rfl, rfl, rfl, trivial⟩)
          · have hd := done (.inr (Zo (List.eq_nil_of_length_eq_zero (by omega)))); refine Xq (Qz (Qw (Qq fun K hK => ?_))); refine Qx J J J (Qx J J J (Qx J J J (QY gorPlus (rPlus_ok p q (by omega) (by omega)) J J J J ?_)))
            refine QY gorTimes (rTimes_ok u (p + q) (by omega)) J J J J ?_
            refine Qv J J J (Qj (hK _ _ (Qz (Q0 ?_)))); clear hK K; refine QU [_] rfl (Qu J QQ) (by rw [hd]; rfl) J
        · have hd := done (.inl (Zo (List.eq_nil_of_length_eq_zero (by omega)))); refine Qy J J J (Qy J J J (Qy J J J (QK J J J J (Qj (hK _ _ (Qz (Xu J (Xq (Qz (Qw ?_)))))))))); clear hK K; refine Qq (fun K hK => ?_); refine Qx J J J (Qx J J J (Qx J J J (QY gorPlus (rPlus_ok p q (by omega) (by omega)) J J J J ?_)))
          refine QY gorTimes (rTimes_ok u (p + q) (by omega)) J J J J ?_
          refine Qv J J J (Qj (hK _ _ (Qz (Q0 ?_)))); clear hK K; refine QU [_] rfl (Qu J QQ) (by rw [hd]; rfl) J
theorem gorGcd : InGo Tryz.prog 97 := InGo.of Tryz.func97 (by kernel_rfl) (by kernel_rfl)
theorem rmagnitude_ok (n : Int) (h1 : -9223372036854775808 ≤ n) (h2 : n ≤ 9223372036854775807) : Ok Tryz.prog 53 [intC n] (natC n.natAbs) := by
  refine Ok.enter Tryz.func53 rfl _ Tryz.ntmps53 rfl ?_
  intro S w
  (refine Qw (Qq fun K hK => ?_); refine Qv rfl rfl rfl ?_; refine Qj (hK _ _ (Qz (Qw (Qw ?_)))); clear hK K; refine Qq (fun K hK => ?_); refine Qx rfl rfl rfl ?_; refine Qk ilss rfl rfl rfl rfl ?_; refine Qj (hK _ _ (Qz ?_)); clear hK K)
  refine Q2 rfl (fun h => ?_) (fun h => ?_)
  · (refine Qw (Qq fun K hK => ?_); refine Qx rfl rfl rfl ?_; refine Qk (iadd (by omega) (by omega)) rfl rfl rfl rfl ?_)
    refine Ops.ineg rfl rfl (by omega) (by omega) rfl ?_
    refine Ze rfl rfl (by with_reducible exact uI64) (by with_reducible exact uU64) (wrap_u (by omega) (by omega)) rfl ?_
    refine Qk (uadd (by omega) (by omega)) rfl rfl rfl rfl ?_
    rw [show -(n + 1) + 1 = (n.natAbs : Int) by omega]
    refine QY gorWord (rWord_ok n.natAbs (by omega)) rfl rfl rfl rfl ?_
    (refine Qv rfl rfl rfl ?_; refine Qj (hK _ _ (Qz (Q0 (QW ?_)))); clear hK K)
    refine QU [_] rfl (Qu rfl QQ) rfl rfl
  · (refine Q1 (Qz (Qw (Qq fun K hK => ?_))); refine Qx rfl rfl rfl ?_)
    refine Ze rfl rfl (by with_reducible exact uI64) (by with_reducible exact uU64) (wrap_u (by omega) (by omega)) rfl ?_
    rw [show n = (n.natAbs : Int) by omega]
    refine QY gorWord (rWord_ok n.natAbs (by omega)) rfl rfl rfl rfl ?_
    (refine Qv rfl rfl rfl ?_; refine Qj (hK _ _ (Qz (Q0 ?_))); clear hK K)
    refine QU [_] rfl (Qu rfl QQ) rfl rfl
theorem gormagnitude : InGo Tryz.prog 53 := InGo.of Tryz.func53 (by kernel_rfl) (by kernel_rfl)
set_option maxHeartbeats 2000000 in
theorem rreduced_ok (neg : Bool) (a b : Nat) (h0 : 0 < b) (la : (limbs a).length ≤ 10000) (lb : (limbs b).length ≤ 10000) : Ok Tryz.prog 52 [boolC neg, natC a, natC b] (fracC (redF neg a b)) := by
  have hg0 : 0 < Nat.gcd a b := Nat.gcd_pos_of_pos_right _ h0
  have hg1 : Nat.gcd a b ≤ b := Nat.gcd_le_right _ h0
  have lg : (limbs (Nat.gcd a b)).length ≤ 10000 := Nat.le_trans (Xa hg1) lb
  have h1 := rGcd_ok a b la lb
  have h2 := rSplit_ok a _ hg0 la lg
  have h3 := rSplit_ok b _ hg0 lb lg
  have e0 : a ≠ 0 → redF neg a b = ⟨neg, a / Nat.gcd a b, b / Nat.gcd a b⟩ := fun ha => by
    unfold redF
    have : a / Nat.gcd a b ≠ 0 := by
      have := Nat.div_pos (Nat.gcd_le_left b (Nat.pos_of_ne_zero ha)) hg0
      omega
    simp [this]
  have e1 : a = 0 → redF neg a b = ⟨false, 0, 1⟩ := fun ha => by
    subst ha; unfold redF; simp [Nat.div_self h0]
  have e11 : natC 1 = .fr (sliceT 1 [[intC 1]]) := by show intsC (limbs 1) = _; rw [ZU (by decide) (by decide)]; rfl
  generalize Nat.gcd a b = g at *
  refine Ok.enter Tryz.func52 rfl _ Tryz.ntmps52 rfl ?_
  intro S w
  (refine Qw (Qq fun K hK => ?_); refine Qf 0 rfl rfl (by with_reducible exact zvFrac) rfl rfl rfl ?_; refine Qj (hK _ _ (Qz (Qw (Qw ?_)))); clear hK K; refine Qq (fun K hK => ?_); refine Qx rfl rfl rfl ?_; refine Qg rfl rfl (by with_reducible exact sNat.und) (List.length_map ..) rfl ?_; refine Qk ieql rfl rfl rfl rfl ?_; refine Qj (hK _ _ (Qz ?_)); clear hK K)
  refine Q2 rfl (fun h => ?_) (fun h => ?_)
  · have ha : a = 0 := Zo (List.eq_nil_of_length_eq_zero (by omega))
    have e2 := e1 ha
    (refine Qw (Qq fun K hK => ?_))
    refine Xt rfl rfl (by with_reducible exact sNat) rfl rfl rfl ?_
    rw [← e11]
    refine Qr rfl (by with_reducible exact bFrac) rfl (.one rfl rfl rfl rfl .nil) rfl ?_
    (refine Q9 3 rfl rfl rfl rfl rfl (by with_reducible exact szFrac) rfl rfl ?_; refine Qj (hK _ _ (Qz (Q0 (QW ?_)))); clear hK K)
    refine QU [_] rfl (X0 (w_agg (ds := [boolC false, intsC [], natC 1]) (by exact ⟨w_same, Z1, w_same, trivial⟩)) (Qi (n := 3) rfl rfl (by with_reducible exact Xo) rfl QQ)) (by rw [e2, ← natC_zero]; rfl) rfl
  · have ha : a ≠ 0 := fun ha => h (by rw [ha, limbs_zero]; rfl)
    have e2 := e0 ha
    (refine Q1 (Qz (Qw (Qq fun K hK => ?_))); refine Qx rfl rfl rfl ?_; refine Qx rfl rfl rfl ?_)
    refine QY gorGcd h1 rfl rfl rfl rfl ?_
    (refine Qv rfl rfl rfl ?_; refine Qj (hK _ _ (Qz (Qw ?_))); clear hK K; refine Qq (fun K hK => ?_); refine Qx rfl rfl rfl ?_; refine Qx rfl rfl rfl ?_)
    refine QY gorSplit h2 rfl rfl rfl rfl ?_
    (refine Qx rfl rfl rfl ?_; refine Q5 rfl rfl rfl rfl ?_; refine Q5 rfl rfl rfl rfl ?_; refine Qv rfl rfl rfl ?_; refine Qv rfl rfl rfl ?_; refine Qj (hK _ _ (Qz (Qw ?_))); clear hK K; refine Qq (fun K hK => ?_); refine Qx rfl rfl rfl ?_; refine Qx rfl rfl rfl ?_)
    refine QY gorSplit h3 rfl rfl rfl rfl ?_
    (refine Qx rfl rfl rfl ?_; refine Q5 rfl rfl rfl rfl ?_; refine Q5 rfl rfl rfl rfl ?_; refine Qv rfl rfl rfl ?_; refine Qv rfl rfl rfl ?_; refine Qj (hK _ _ (Qz (Qw ?_))); clear hK K; refine Qq (fun K hK => ?_); refine Qx rfl rfl rfl ?_; refine Qx rfl rfl rfl ?_; refine Qx rfl rfl rfl ?_)
    refine Qr rfl (by with_reducible exact bFrac) rfl (.one rfl rfl rfl rfl (.one rfl rfl rfl rfl (.one rfl rfl rfl rfl .nil))) rfl ?_
    (refine Q9 3 rfl rfl rfl rfl rfl (by with_reducible exact szFrac) rfl rfl ?_; refine Qj (hK _ _ (Qz (Q0 ?_))); clear hK K)
    refine QU [_] rfl (Qi (n := 3) rfl rfl (by with_reducible exact Xo) rfl QQ) (by rw [e2]; rfl) rfl
theorem gorreduced : InGo Tryz.prog 52 := InGo.of Tryz.func52 (by kernel_rfl) (by kernel_rfl)
theorem zBool : (Tryz.prog.info? 4).map (·.size) = some 1 := by kernel_rfl
set_option maxHeartbeats 2000000 in
theorem rFrom_ok (n d : Int) (h1 : -9223372036854775808 ≤ n) (h2 : n ≤ 9223372036854775807) (h3 : -9223372036854775808 ≤ d) (h4 : d ≤ 9223372036854775807) (h0 : d ≠ 0) : Ok Tryz.prog 18 [intC n, intC d] (.fr (tupT [ratC (Rat.divInt n d), intC 0])) := by
  have hl : (limbs n.natAbs).length ≤ 3 := Xk (k := 3) (by omega); have hl2 : (limbs d.natAbs).length ≤ 3 := Xk (k := 3) (by omega); rw [show ratC (Rat.divInt n d) = fracC (redF (decide (n < 0) != decide (d < 0)) n.natAbs d.natAbs) from by rw [from_redF n d h0]]
  refine Ok.enter Tryz.func18 J _ Tryz.ntmps18 J ?_
  intro S w; refine Qw (Qq fun K hK => ?_); refine Qf 0 J J zvFrac J J J (Qv J J J (Qj (hK _ _ (Qz (Qw (Qw ?_)))))); clear hK K; refine Qq (fun K hK => ?_); refine Qx J J J (Qk ieql J J J J (Qj (hK _ _ (Qz ?_)))); clear hK K; refine Q2 J (fun h => absurd h h0) (fun h => ?_); refine Q1 (Qz (Qw (Qq fun K hK => ?_))); refine Qx J J J (Qk ilss J J J J (Qx J J J (Qk ilss J J J J (Ops.bne J J J uBool J ?_)))); rw [dne]; refine Qx J J J (QY gormagnitude (rmagnitude_ok n h1 h2) J J J J (Qx J J J (QY gormagnitude (rmagnitude_ok d h3 h4) J J J J (QY gorreduced (rreduced_ok _ n.natAbs d.natAbs (by omega) (by omega) (by omega)) J J J J ?_)))); refine Q9 3 J J J J J szFrac J J (Qv J J J (Qj (hK _ _ (Qz (Q0 ?_))))); clear hK K; refine QU [_, _] rfl (Qi (n := 3) J J Xo J (Qu J QQ)) J J
theorem gorFrom : InGo Tryz.prog 18 := InGo.of Tryz.func18 (by kernel_rfl) (by kernel_rfl)
def oppF (f : Fr) : Fr := ⟨!f.neg && decide (f.num ≠ 0), f.num, f.den⟩
theorem oppF_q (q : Rat) : oppF (ofQ q) = ofQ (-q) := by
  unfold oppF ofQ; simp only [Rat.neg_num, Rat.neg_den, Int.natAbs_neg]
  congr 1
  by_cases h : q.num < 0
  · rw [decide_eq_true h, decide_eq_false (show ¬ (-q.num < 0) by omega)]; rfl
  · rw [decide_eq_false h, Bool.not_false, Bool.true_and, decide_eq_decide]; omega
set_option maxHeartbeats 2000000 in
theorem rOpposite_ok (f : Fr) : Ok Tryz.prog 103 [fracC f] (fracC (oppF f)) := by
  refine Ok.enter Tryz.func103 J _ Tryz.ntmps103 J ?_
  intro S w; refine Qw (Qq fun K hK => ?_); refine Xv 0 J J J J J J J (Qf 1 J J zvFrac J J J (Qj (hK _ _ (Qz (Qw ?_))))); clear hK K; refine Qq (fun K hK => ?_); refine QZ J J J fF0 J (QJ J J J J J lBool J (Qm J J J (Qx J J J (X7 6 J (fun h => ?_) (fun h => ?_)))))
  · refine QZ J J J fF1 J (QJ J J J J J lNat J (Qg J J sNat.und (List.length_map ..) J (Qk igtr J J J J (QV J J J J (QZ J J J fF0 J (X6 J J J J J zBool (Nat.zero_lt_succ _) (Qj (hK _ _ (Qz (Qw ?_)))))))))); clear hK K; refine Qq (fun K hK => ?_); refine Q6 (n := 3) J J J J J Xo J (Q9 3 J J J J J szFrac J J (Qj (hK _ _ (Qz (Q0 ?_))))); clear hK K; refine QU [_] rfl (Qi (n := 3) J J Xo J QQ) (by unfold oppF; rw [h, ← limbs_len_posI]; rfl) J
  · refine Qy J J J (Qy J J J (Qy J J J (Qy J J J (QK J J J J (QZ J J J fF0 J (X6 J J J J J zBool (Nat.zero_lt_succ _) (Qj (hK _ _ (Qz (Qw ?_)))))))))); clear hK K; refine Qq (fun K hK => ?_); refine Q6 (n := 3) J J J J J Xo J (Q9 3 J J J J J szFrac J J (Qj (hK _ _ (Qz (Q0 ?_))))); clear hK K; refine QU [_] rfl (Qi (n := 3) J J Xo J QQ) (by unfold oppF; rw [h]; rfl) J
theorem gorOpposite : InGo Tryz.prog 103 := InGo.of Tryz.func103 (by kernel_rfl) (by kernel_rfl)
set_option maxHeartbeats 4000000 in
theorem rsum_ok (f h : Fr) (l1 : (limbs f.num).length ≤ 1000) (l2 : (limbs f.den).length ≤ 1000) (l3 : (limbs h.num).length ≤ 1000) (l4 : (limbs h.den).length ≤ 1000) (d1 : 0 < f.den) (d2 : 0 < h.den) :
    Ok Tryz.prog 102 [fracC f, fracC h] (fracC (redF (sumS f.neg (f.num * h.den) h.neg (h.num * f.den)) (sumN f.neg (f.num * h.den) h.neg (h.num * f.den)) (f.den * h.den))) := by
  have m1 := mul_len l1 l4; have m2 := mul_len l3 l2; have m3 := mul_len l2 l4; have hp := Nat.mul_pos d1 d2; have m4 := sumN_len (n1 := f.neg) (n2 := h.neg) m1 m2; have hr := rreduced_ok (sumS f.neg (f.num * h.den) h.neg (h.num * f.den)) (sumN f.neg (f.num * h.den) h.neg (h.num * f.den)) (f.den * h.den) hp (by omega) (by omega)
  refine Ok.enter Tryz.func102 J _ Tryz.ntmps102 J ?_
  intro S w; generalize redF (sumS f.neg (f.num * h.den) h.neg (h.num * f.den)) (sumN f.neg (f.num * h.den) h.neg (h.num * f.den)) (f.den * h.den) = rr at *; refine Qw (Qq fun K hK => ?_); refine Xv 0 J J J J J J J (Xv 1 J J J J J J J (Qf 2 J J zvFrac J J J (Qj (hK _ _ (Qz (Qw ?_)))))); clear hK K; refine XJ mixed 18 (.p 0 (.p 2 (.p 5 (.p 7 (.p 10 (.p 12 (.f 1 (.f 3 (.f 6 (.f 8 (.f 11 (.f 13 (.m 4 (.m 9 (.m 14 (.p 15 (.p 16 (.p 17 .done)))))))))))))))))) (by kernel_rfl) (fun K hK => ?_); refine QZ J J J fF1 J (QZ J J J fF2 J (QZ J J J fF1 J (QZ J J J fF2 J (QZ J J J fF2 J (QZ J J J fF2 J (QJ J J J J J lNat J (QJ J J J J J lNat J (QJ J J J J J lNat J (QJ J J J J J lNat J (QJ J J J J J lNat J (QJ J J J J J lNat J (QY gorTimes (rTimes_ok f.num h.den (by omega)) J J J J ?_)))))))))))); skip
  refine QY gorTimes (rTimes_ok h.num f.den (by omega)) J J J J ?_
  skip
  refine QY gorTimes (rTimes_ok f.den h.den (by omega)) J J J J ?_
  refine Qv J J J (Qv J J J (Qv J J J (Qj (hK _ _ (Qz (Qw (Qw ?_))))))); clear hK K; refine Qq (fun K hK => ?_); refine QZ J J J fF0 J (QJ J J J J J lBool J (QZ J J J fF0 J (QJ J J J J J lBool J (Ops.beq J J J uBool J (Qj (hK _ _ (Qz ?_))))))); clear hK K; refine XQ J (fun g => ?_) (fun g => ?_)
  · have g' : f.neg = h.neg := by simpa using g
    have e1 : sumN f.neg (f.num * h.den) h.neg (h.num * f.den) = f.num * h.den + h.num * f.den := by unfold sumN; rw [if_pos g']
    have e2 : sumS f.neg (f.num * h.den) h.neg (h.num * f.den) = f.neg := by unfold sumS; rw [if_pos g']
    rw [e1, e2] at hr; refine Qw (XJ mixed 7 (.p 0 (.p 2 (.p 3 (.p 5 (.f 1 (.m 4 (.m 6 (.a 7 .done)))))))) (by kernel_rfl) (fun K hK => ?_)); refine QZ J J J fF0 J (Qx J J J (Qx J J J (Qx J J J (QJ J J J J J lBool J (QY gorPlus (rPlus_ok (f.num * h.den) (h.num * f.den) (by omega) (by omega)) J J J J ?_))))); refine QY gorreduced hr J J J J (Q9 3 J J J J J szFrac J J (Qj (hK _ _ (Qz (Q0 (QW ?_)))))); clear hK K; refine QU [_] rfl (Qi (n := 3) J J Xo J QQ) J J
  · have g' : ¬ f.neg = h.neg := by simpa using g
    refine Q1 (Qz (Qw (Qw (Qq fun K hK => ?_)))); refine Qx J J J (Qx J J J (QY gorCompare (rCompare_ok (f.num * h.den) (h.num * f.den) (by omega) (by omega)) J J J J ?_)); refine Qk igeq J J J J (Qj (hK _ _ (Qz ?_))); clear hK K; refine Q2 J (fun g2 => ?_) (fun g2 => ?_)
    · have hle : h.num * f.den ≤ f.num * h.den := by have := cmpI_neg (a := ((f.num * h.den : Nat) : Int)) (b := ((h.num * f.den : Nat) : Int)); omega
      have e1 : sumN f.neg (f.num * h.den) h.neg (h.num * f.den) = f.num * h.den - h.num * f.den := by unfold sumN; rw [if_neg g', if_neg (by omega)]
      have e2 : sumS f.neg (f.num * h.den) h.neg (h.num * f.den) = f.neg := by unfold sumS; rw [if_neg g', if_neg (by omega)]
      rw [e1, e2] at hr; refine Qw (XJ mixed 7 (.p 0 (.p 2 (.p 3 (.p 5 (.f 1 (.m 4 (.m 6 (.a 7 .done)))))))) (by kernel_rfl) (fun K hK => ?_)); refine QZ J J J fF0 J (Qx J J J (Qx J J J (Qx J J J (QJ J J J J J lBool J (QY gorLess (rLess_ok (f.num * h.den) (h.num * f.den) hle (by omega)) J J J J ?_))))); refine QY gorreduced hr J J J J (Q9 3 J J J J J szFrac J J (Qj (hK _ _ (Qz (Q0 (QW ?_)))))); clear hK K; refine QU [_] rfl (Qi (n := 3) J J Xo J QQ) J J
    · have hlt : f.num * h.den < h.num * f.den := by have := cmpI_neg (a := ((f.num * h.den : Nat) : Int)) (b := ((h.num * f.den : Nat) : Int)); omega
      have e1 : sumN f.neg (f.num * h.den) h.neg (h.num * f.den) = h.num * f.den - f.num * h.den := by unfold sumN; rw [if_neg g', if_pos hlt]
      have e2 : sumS f.neg (f.num * h.den) h.neg (h.num * f.den) = h.neg := by unfold sumS; rw [if_neg g', if_pos hlt]
      rw [e1, e2] at hr; refine Q1 (Qz (Qw ?_)); refine XJ mixed 7 (.p 0 (.p 2 (.p 3 (.p 5 (.f 1 (.m 4 (.m 6 (.a 7 .done)))))))) (by kernel_rfl) (fun K hK => ?_); refine QZ J J J fF0 J (Qx J J J (Qx J J J (Qx J J J (QJ J J J J J lBool J (QY gorLess (rLess_ok (h.num * f.den) (f.num * h.den) (by omega) (by omega)) J J J J ?_))))); refine QY gorreduced hr J J J J (Q9 3 J J J J J szFrac J J (Qj (hK _ _ (Qz (Q0 ?_))))); clear hK K; refine QU [_] rfl (Qi (n := 3) J J Xo J QQ) J J
theorem gorsum : InGo Tryz.prog 102 := InGo.of Tryz.func102 (by kernel_rfl) (by kernel_rfl)
end Go.Proofs.YtlkdkbdgnjcopaaGreat
namespace Go.Own
theorem Fin.kp2 {X : Ctx} {L L' : AL} {B : BL} {K : Act → World → Prop} (h : Fin X L' B K) (hs : subL L L') : Fin X L B K := Fin.keep L' hs h
end Go.Own
namespace Go.Proofs.YtlkdkbdgnjcopaaGreat
open Go.Own Go.Limbs
attribute [local irreducible] St Ops Go.Own.Fin Ok
theorem ofQ_den (q : Rat) : 0 < (ofQ q).den := q.den_pos
def cmpQ (p q : Rat) : Int := (p.num * q.den - q.num * p.den).sign
theorem redF_z (S : Bool) (N D : Nat) (hD : 0 < D) : (redF S N D).neg = decide (sg S N < 0) ∧ ((redF S N D).num = 0 ↔ sg S N = 0) := by
  have hz : N / Nat.gcd N D = 0 ↔ N = 0 := by
    have hg : 0 < Nat.gcd N D := Nat.gcd_pos_of_pos_right _ hD
    constructor
    · intro h
      have h1 := Nat.div_mul_cancel (Nat.gcd_dvd_left N D)
      rw [h, Nat.zero_mul] at h1; exact h1.symm
    · intro h; rw [h]; exact Nat.zero_div _
  have e1 : sg S N = 0 ↔ N = 0 := by unfold sg; cases S <;> simp
  refine ⟨?_, ?_⟩
  · show (S && decide (N / Nat.gcd N D ≠ 0)) = _
    by_cases h : N = 0
    · rw [decide_eq_false (fun h2 => h2 (hz.2 h)), Bool.and_false, decide_eq_false (by have := e1.2 h; omega)]
    · have h2 : N / Nat.gcd N D ≠ 0 := fun h2 => h (hz.1 h2)
      rw [decide_eq_true h2, Bool.and_true]
      unfold sg
      cases S with
      | true => rw [if_pos rfl, decide_eq_true (by omega)]
      | false => rw [if_neg (by decide), decide_eq_false (by omega)]
  · show N / Nat.gcd N D = 0 ↔ _
    rw [hz, e1]
theorem gorFOrderQ : InGo Tryz.prog 55 := InGo.of Tryz.func55 (by kernel_rfl) (by kernel_rfl)
set_option maxHeartbeats 8000000 in
theorem rFOrder_q (p q : Rat) (l1 : (limbs (ofQ p).num).length ≤ 1000) (l2 : (limbs (ofQ p).den).length ≤ 1000) (l3 : (limbs (ofQ q).num).length ≤ 1000) (l4 : (limbs (ofQ q).den).length ≤ 1000) : Ok Tryz.prog 55 [ratC p, ratC q] (intC (cmpQ p q)) := by
  have h1 := rOpposite_ok (ofQ q)
  have h2 := rsum_ok (ofQ p) (oppF (ofQ q)) l1 l2 l3 l4 (ofQ_den p) (ofQ_den q)
  have hz : sg (sumS (ofQ p).neg ((ofQ p).num * (oppF (ofQ q)).den) (oppF (ofQ q)).neg ((oppF (ofQ q)).num * (ofQ p).den)) (sumN (ofQ p).neg ((ofQ p).num * (oppF (ofQ q)).den) (oppF (ofQ q)).neg ((oppF (ofQ q)).num * (ofQ p).den)) = p.num * q.den - q.num * p.den := by
    rw [sum_sg, sg_mul, sg_mul, ofQ_sg]
    have e : sg (oppF (ofQ q)).neg (oppF (ofQ q)).num = -q.num := by
      rw [oppF_q, ofQ_sg]; exact Rat.neg_num q
    rw [e, Int.neg_mul]; rfl
  have hr := redF_z (sumS (ofQ p).neg ((ofQ p).num * (oppF (ofQ q)).den) (oppF (ofQ q)).neg ((oppF (ofQ q)).num * (ofQ p).den)) (sumN (ofQ p).neg ((ofQ p).num * (oppF (ofQ q)).den) (oppF (ofQ q)).neg ((oppF (ofQ q)).num * (ofQ p).den)) ((ofQ p).den * (oppF (ofQ q)).den) (Nat.mul_pos (ofQ_den p) (ofQ_den q))
  rw [hz] at hr
  have hc : cmpQ p q = (p.num * q.den - q.num * p.den).sign := rfl
  generalize redF (sumS (ofQ p).neg ((ofQ p).num * (oppF (ofQ q)).den) (oppF (ofQ q)).neg ((oppF (ofQ q)).num * (ofQ p).den)) (sumN (ofQ p).neg ((ofQ p).num * (oppF (ofQ q)).den) (oppF (ofQ q)).neg ((oppF (ofQ q)).num * (ofQ p).den)) ((ofQ p).den * (oppF (ofQ q)).den) = d at *
  generalize p.num * q.den - q.num * p.den = z at *
  generalize oppF (ofQ q) = oq at *
  have hlen := limbs_len_pos (n := d.num)
  have res1 : d.neg = true → cmpQ p q = -1 := fun h => by
    rw [hr.1] at h
    rw [hc]; exact Int.sign_eq_neg_one_of_neg (of_decide_eq_true h)
  have res2 : d.neg = false → cmpQ p q = min ((limbs d.num).length : Int) 1 := fun h => by
    rw [hr.1] at h
    have h3 := of_decide_eq_false h
    rw [hc]
    by_cases h4 : z = 0
    · rw [h4]
      have := hr.2.2 h4
      have h5 : (limbs d.num).length = 0 := by omega
      rw [h5]; rfl
    · rw [Int.sign_eq_one_of_pos (by omega)]
      have : d.num ≠ 0 := fun h5 => h4 (hr.2.1 h5)
      omega
  clear hr hz hc
  refine Ok.enter Tryz.func55 rfl _ Tryz.ntmps55 rfl ?_
  intro S w
  (refine Qw (Qq fun K hK => ?_); refine Xv 0 rfl rfl rfl rfl rfl rfl rfl ?_; refine Xv 1 rfl rfl rfl rfl rfl rfl rfl ?_; refine Qv rfl rfl rfl ?_; refine Qj (hK _ _ (Qz (Qw ?_))); clear hK K)
  refine XJ (by with_reducible exact mixed) 5 (.f 0 (.f 1 (.fork 2 (.fork 3 (.m 4 (.a 5 .done)) 4 (.m 3 (.a 5 .done))) 4 (.m 2 (.m 3 (.a 5 .done)))))) (by kernel_rfl) (fun K hK => ?_)
  refine (fun (cont : Go.Own.Fin _ [(5, .own 2)] [(2, .box 53 (frCs d)), (1, .box 53 (frCs (ofQ q))), (0, .box 53 (frCs (ofQ p)))] K) => ?_) (hK _ _ ?_)
  rotate_left
  · clear hK K
    (refine Qz (Qw (Qw (Qq fun K hK => ?_))); refine QZ rfl rfl rfl (by with_reducible exact fF0) rfl ?_; refine QJ rfl rfl rfl rfl rfl (by with_reducible exact lBool) rfl ?_; refine Qj (hK _ _ (Qz ?_)); clear hK K)
    refine XQ rfl (fun g => ?_) (fun g => ?_)
    · (refine Qw (Qq fun K hK => ?_); refine Qv rfl rfl rfl ?_; refine Qj (hK _ _ (Qz (Q0 (QW ?_)))); clear hK K)
      refine QU [_] rfl (Qu rfl QQ) (by rw [res1 g]; rfl) rfl
    · (refine Q1 (Qz (Qw (Qq fun K hK => ?_))); refine QZ rfl rfl rfl (by with_reducible exact fF1) rfl ?_; refine QJ rfl rfl rfl rfl rfl (by with_reducible exact lNat) rfl ?_; refine Qg rfl rfl (by with_reducible exact sNat.und) (List.length_map ..) rfl ?_; refine Ops.min2 rfl rfl rfl rfl ?_; refine Qv rfl rfl rfl ?_; refine Qj (hK _ _ (Qz (Q0 ?_))); clear hK K)
      refine QU [_] rfl (Qu rfl QQ) (by rw [res2 g]; rfl) rfl
  clear hK
  (refine Q6 (n := 3) rfl rfl rfl rfl rfl (by with_reducible exact Xo) rfl ?_; refine Q6 (n := 3) rfl rfl rfl rfl rfl (by with_reducible exact Xo) rfl ?_)
  refine Zh ?_ ?_
  · refine QY gorOpposite h1 rfl rfl rfl rfl ?_
    refine Zh ?_ ?_
    · refine QY gorsum h2 rfl rfl rfl rfl ?_
      (refine Qf 2 rfl rfl (by with_reducible exact zvFrac) rfl rfl rfl ?_; refine Q9 3 rfl rfl rfl rfl rfl (by with_reducible exact szFrac) rfl rfl ?_)
      exact Qj (Fin.kp2 cont ⟨rfl, trivial⟩)
    · refine Qf 2 rfl rfl (by with_reducible exact zvFrac) rfl rfl rfl ?_
      refine QY gorsum h2 rfl rfl rfl rfl ?_
      (refine Q9 3 rfl rfl rfl rfl rfl (by with_reducible exact szFrac) rfl rfl ?_)
      exact Qj (Fin.kp2 cont ⟨rfl, trivial⟩)
  · refine Qf 2 rfl rfl (by with_reducible exact zvFrac) rfl rfl rfl ?_
    refine QY gorOpposite h1 rfl rfl rfl rfl ?_
    refine QY gorsum h2 rfl rfl rfl rfl ?_
    (refine Q9 3 rfl rfl rfl rfl rfl (by with_reducible exact szFrac) rfl rfl ?_)
    exact Qj (Fin.kp2 cont ⟨rfl, trivial⟩)
theorem gorFCompareQ : InGo Tryz.prog 20 := InGo.of Tryz.func20 (by kernel_rfl) (by kernel_rfl)
theorem rFCompare_q (p q : Rat) (l1 : (limbs (ofQ p).num).length ≤ 1000) (l2 : (limbs (ofQ p).den).length ≤ 1000) (l3 : (limbs (ofQ q).num).length ≤ 1000) (l4 : (limbs (ofQ q).den).length ≤ 1000) : Ok Tryz.prog 20 [ratC p, ratC q] (.fr (tupT [intC (cmpQ p q), intC 0])) := by
  refine Ok.enter Tryz.func20 rfl _ Tryz.ntmps20 rfl ?_
  intro S w
  (refine Qw (Qq fun K hK => ?_); refine Xv 0 rfl rfl rfl rfl rfl rfl rfl ?_; refine Xv 1 rfl rfl rfl rfl rfl rfl rfl ?_; refine Qv rfl rfl rfl ?_; refine Qv rfl rfl rfl ?_; refine Qj (hK _ _ (Qz (Qw ?_))); clear hK K; refine Qq (fun K hK => ?_); refine Q6 (n := 3) rfl rfl rfl rfl rfl (by with_reducible exact Xo) rfl ?_; refine Q6 (n := 3) rfl rfl rfl rfl rfl (by with_reducible exact Xo) rfl ?_)
  refine QY gorFOrderQ (rFOrder_q p q l1 l2 l3 l4) rfl rfl rfl rfl ?_
  (refine Qv rfl rfl rfl ?_; refine Qv rfl rfl rfl ?_; refine Qj (hK _ _ (Qz (Q0 ?_))); clear hK K)
  refine QU [_, _] rfl (Qu rfl (Qu rfl QQ)) rfl rfl
end Go.Proofs.YtlkdkbdgnjcopaaGreat
namespace Go.Proofs.YtlkdkbdgnjcopaaGreat
open Go.Own Go.Limbs
theorem chk_fine {x : List Rs} (hok : ∀ r ∈ x, okR r = true) (hpw : pwB x = true) (hl : (x.length : Int) ≤ 512) : chkF x = 0 := by
  have hpw := pw_all hpw
  have h1 := sd_len cmpR (x.filter okR)
  have h2 := List.length_filter_le okR x
  unfold chkF
  rw [if_neg (by rw [List.any_eq_true]; rintro ⟨r, hr, h⟩; rw [hok r hr] at h; cases h), if_neg (by omega), if_pos (cons_all fun a ha b hb => hpw a ha b hb)]
structure CnOk (l : List Rs) (n : Int) (c : Cn) : Prop where
  se : 1 ≤ c.se ∧ c.se ≤ l.length
  hi : 0 ≤ c.hi ∧ c.hi ≤ c.se
  lo : c.lo = max 0 (c.hi - n)
  cnt : ∀ b, 0 ≤ b → b ≤ 1048576 → cntF l c.wr b = (⟨c.wr, c.se, max 0 (c.hi - b), c.hi⟩, 0)
  crs : crO l c.wr = ((crsF l c.wr true).map idOf, (crsF l c.wr false).map idOf, 0)
  len : ((crsF l c.wr true).length : Int) + (crsF l c.wr false).length = c.se ∧ ((crsF l c.wr false).length : Int) = c.hi
theorem filter_two {α : Type} (p : α → Bool) (q : α → Bool) : ∀ l : List α, (l.filter fun r => p r && (q r == true)).length + (l.filter fun r => p r && (q r == false)).length = (l.filter p).length
  | [] => rfl
  | a :: l => by
    have ih := filter_two p q l
    rw [List.filter_cons, List.filter_cons, List.filter_cons]
    cases hp : p a <;> cases hq : q a <;> simp only [show ((true : Bool) == true) = true from rfl, show ((false : Bool) == true) = false from rfl, show ((true : Bool) == false) = false from rfl, show ((false : Bool) == false) = true from rfl, Bool.and_self, Bool.and_true, Bool.and_false, Bool.false_and, if_true, Bool.false_eq_true, if_false, List.length_cons] <;> omega
theorem cnOf_ok {l : List Rs} {n : Int} (hc : chkF l = 0) (hn : 0 ≤ n ∧ n ≤ 1048576) {c : Cn} (h : c ∈ (alO l n).1) : CnOk l n c := by
  have e : (alO l n).1 = (sd cmpW ((tickF (wayF l) (sd cmpR (l.filter okR))).map (·.1))).map (cnOf (tickF (wayF l) (sd cmpR (l.filter okR))) n) := by
    unfold alO; rw [if_neg (by omega), if_neg (fun h => h hc)]
  rw [e] at h
  obtain ⟨w, hw, rfl⟩ := List.mem_map.1 h
  have hw := ((sd_spec ordW _).2 w).1 hw
  rw [← look1_some] at hw
  obtain ⟨r, hr, hrw⟩ := ((tickF_some (wayF l) w _ []).1 hw).resolve_left (by simp [look1])
  have hk : (look1 (tickF (wayF l) (sd cmpR (l.filter okR))) w).getD (0, 0) = (0 + (((sd cmpR (l.filter okR)).filter fun r => decide (w ∈ wayF l r)).length : Int), 0 + (((sd cmpR (l.filter okR)).filter fun r => decide (w ∈ wayF l r) && (r.an == false)).length : Int)) := tickF_look (wayF l) w _ []
  have h2 : (crsF l w true).length + (crsF l w false).length = ((sd cmpR (l.filter okR)).filter fun r => decide (w ∈ wayF l r)).length := filter_two _ _ _
  have h3 : (crsF l w false).length = ((sd cmpR (l.filter okR)).filter fun r => decide (w ∈ wayF l r) && (r.an == false)).length := rfl
  have h4 : 0 < ((sd cmpR (l.filter okR)).filter fun r => decide (w ∈ wayF l r)).length := List.length_pos_of_mem (List.mem_filter.2 ⟨hr, decide_eq_true hrw⟩)
  have h5 := List.length_filter_le (fun r => decide (w ∈ wayF l r)) (sd cmpR (l.filter okR))
  have h6 := sd_len cmpR (l.filter okR)
  have h7 := List.length_filter_le okR l
  rw [← h2, ← h3, Int.zero_add, Int.zero_add] at hk
  rw [← h2] at h4 h5
  clear h2 h3
  have e2 : cnOf (tickF (wayF l) (sd cmpR (l.filter okR))) n w = ⟨w, ((crsF l w true).length : Int) + (crsF l w false).length, max 0 ((crsF l w false).length - n), (crsF l w false).length⟩ := by
    unfold cnOf; rw [hk]; simp
  rw [e2]
  refine ⟨⟨by dsimp only; omega, by dsimp only; omega⟩, ⟨by dsimp only; omega, by dsimp only; omega⟩, rfl, fun b h0 h1 => ?_, ?_, ⟨rfl, rfl⟩⟩
  · dsimp only
    unfold cntF
    rw [if_neg (by omega), if_neg (fun h => h hc), if_neg (by omega)]
  · dsimp only
    unfold crO
    rw [if_neg (fun h => h hc), if_neg (by omega)]
theorem alO_snd {l : List Rs} {n : Int} (hc : chkF l = 0) (hn : 0 ≤ n ∧ n ≤ 1048576) : (alO l n).2 = 0 := by
  unfold alO; rw [if_neg (by omega), if_neg (fun h => h hc)]
theorem alO_len (l : List Rs) (n : Int) : (alO l n).1.length ≤ l.length * 256 := by
  unfold alO
  split
  · exact Nat.zero_le _
  · split
    · exact Nat.zero_le _
    · dsimp only
      rw [List.length_map]
      refine Nat.le_trans (sd_len _ _) ?_
      rw [List.length_map]
      have h1 := tickF_len (wayF l) 256 (wayF_len l) (sd cmpR (l.filter okR)) []
      have h2 := sd_len cmpR (l.filter okR)
      have h3 := List.length_filter_le okR l
      refine Nat.le_trans h1 ?_
      rw [List.length_nil, Nat.zero_add]
      exact Nat.mul_le_mul_right _ (Nat.le_trans h2 h3)
theorem redF_le (S : Bool) (N D : Nat) : (redF S N D).num ≤ N ∧ (redF S N D).den ≤ D := ⟨Nat.div_le_self .., Nat.div_le_self ..⟩
theorem share_len {a b : Int} (hb : 0 < b) (h1 : a.natAbs < 1073741824) (h2 : b.natAbs < 1073741824) : (limbs (ofQ (Rat.divInt a b)).num).length ≤ 1000 ∧ (limbs (ofQ (Rat.divInt a b)).den).length ≤ 1000 := by
  rw [← from_redF a b (by omega)]
  have h := redF_le (decide (a < 0) != decide (b < 0)) a.natAbs b.natAbs
  exact ⟨Nat.le_trans (Xk (k := 1) (by rw [Nat.pow_one]; omega)) (by decide), Nat.le_trans (Xk (k := 1) (by rw [Nat.pow_one]; omega)) (by decide)⟩
theorem share_le {a b c d : Int} (hb : 0 < b) (hd : 0 < d) (h : a * d ≤ c * b) : cmpQ (Rat.divInt a b) (Rat.divInt c d) ≤ 0 := by
  have h1 : Rat.divInt a b ≤ Rat.divInt c d := by
    rw [Rat.le_iff_sub_nonneg, Rat.divInt_sub_divInt _ _ (by omega) (by omega), Rat.divInt_nonneg_iff_of_pos_right (Int.mul_pos hd hb)]; omega
  rw [Rat.le_iff] at h1
  unfold cmpQ
  rcases Int.lt_trichotomy ((Rat.divInt a b).num * (Rat.divInt c d).den - (Rat.divInt c d).num * (Rat.divInt a b).den) 0 with h2 | h2 | h2
  · rw [Int.sign_eq_neg_one_of_neg h2]; decide
  · rw [h2]; decide
  · omega
theorem share_neg {a b : Int} (hb : 0 < b) (ha : 0 ≤ a) : (ofQ (Rat.divInt a b)).neg = false := by
  have : 0 ≤ (Rat.divInt a b).num := Rat.num_nonneg.2 ((Rat.divInt_nonneg_iff_of_pos_right hb).2 ha)
  exact decide_eq_false (by omega)
attribute [local irreducible] Go.Own.Fin Ok OkB OkF OkL OkM OkN OkT Ops St
theorem gocounted : InGo Tryz.prog 38 := InGo.of Tryz.func38 rfl (by decide)
theorem counted_ok (w : Wr) (a b n : Int) (ha : 0 ≤ a ∧ a ≤ 100000) (hb : 0 ≤ b ∧ b ≤ 100000) (hn : 0 ≤ n ∧ n ≤ 1048576) : Ok Tryz.prog 38 [wrC w, csC (a, b), intC n] (cnC ⟨w, a, max 0 (b - n), b⟩) := by
  refine Ok.enter Tryz.func38 rfl _ Tryz.ntmps38 rfl ?_
  intro S w0
  refine Qw ?_
  refine Qq (fun K hK => ?_)
  refine Xv 0 rfl rfl rfl rfl rfl rfl rfl ?_
  refine Xv 1 rfl rfl rfl rfl rfl rfl rfl ?_
  refine Qf 2 rfl rfl (by with_reducible exact zvCn) rfl rfl rfl ?_
  (refine Qj (hK _ _ (Qz (Qw ?_))); clear hK K; refine Qq (fun K hK => ?_); refine Q6 (n := 2) rfl rfl rfl rfl rfl (by with_reducible first | exact Zs | exact Z2 | exact lCs) rfl ?_; refine QZ rfl rfl rfl (by with_reducible first | exact fTk0 | exact fTk1 | exact fTk2 | exact fWr0 | exact fWr1 | exact XW | exact XK | exact Xe | exact fStm1 | exact fCn0 | exact fCn1 | exact fCn2 | exact fCn3 | exact fCs0 | exact fCs1) rfl ?_; refine QJ rfl rfl rfl rfl rfl (by with_reducible first | exact lInt | exact Qd | exact Q3 | exact lRess) rfl ?_; refine QZ rfl rfl rfl (by with_reducible first | exact fTk0 | exact fTk1 | exact fTk2 | exact fWr0 | exact fWr1 | exact XW | exact XK | exact Xe | exact fStm1 | exact fCn0 | exact fCn1 | exact fCn2 | exact fCn3 | exact fCs0 | exact fCs1) rfl ?_; refine QJ rfl rfl rfl rfl rfl (by with_reducible first | exact lInt | exact Qd | exact Q3 | exact lRess) rfl ?_; refine Qx rfl rfl rfl ?_; refine Qk (isub (by omega) (by omega)) rfl rfl rfl rfl ?_; refine Ops.max2 rfl rfl rfl rfl ?_; refine QZ rfl rfl rfl (by with_reducible first | exact fTk0 | exact fTk1 | exact fTk2 | exact fWr0 | exact fWr1 | exact XW | exact XK | exact Xe | exact fStm1 | exact fCn0 | exact fCn1 | exact fCn2 | exact fCn3 | exact fCs0 | exact fCs1) rfl ?_; refine QJ rfl rfl rfl rfl rfl (by with_reducible first | exact lInt | exact Qd | exact Q3 | exact lRess) rfl ?_)
  refine Qr rfl (by with_reducible exact bCn) rfl (.agg rfl rfl rfl rfl (.one rfl rfl rfl rfl (.one rfl rfl rfl rfl (.one rfl rfl rfl rfl .nil)))) rfl ?_
  (refine Q9 5 rfl rfl rfl rfl rfl (by with_reducible exact szCn) rfl rfl ?_; refine Qj (hK _ _ (Qz (Q0 ?_))); clear hK K)
  refine QU [_] rfl (Qi (n := 5) rfl rfl (by with_reducible exact lCn) rfl QQ) rfl rfl
theorem goCount : InGo Tryz.prog 12 := InGo.of Tryz.func12 rfl (by decide)
set_option maxHeartbeats 4000000 in
theorem Count_ok (l : List Rs) (hl : l.length ≤ 10000) (w : Wr) (n : Int) : Ok Tryz.prog 12 [rssC l, wrC w, intC n] (.fr (tupT [cnC (cntF l w n).1, intC (cntF l w n).2])) := by
  have hX := Crosses_ok l hl w
  have hlen : ∀ b, (crsF l w b).length ≤ 10000 := fun b => by
    have := sd_len cmpR (l.filter okR)
    have := List.length_filter_le okR l
    have := List.length_filter_le (fun r => decide (w ∈ wayF l r) && (r.an == b)) (sd cmpR (l.filter okR))
    unfold crsF; omega
  have e : cntF l w n = if n < 0 ∨ 1048576 < n then (cn0, 1) else if ¬ (crO l w).2.2 = 0 then (cn0, (crO l w).2.2) else (⟨w, ((crO l w).1.length : Int) + (crO l w).2.1.length, max 0 ((crO l w).2.1.length - n), (crO l w).2.1.length⟩, 0) := by
    unfold cntF crO
    by_cases h0 : n < 0 ∨ 1048576 < n
    · rw [if_pos h0, if_pos h0]
    rw [if_neg h0, if_neg h0]
    by_cases h1 : chkF l = 0
    · by_cases h2 : (crsF l w true).length + (crsF l w false).length = 0
      · simp only [ne_eq, h1, h2, not_true_eq_false, if_false, if_true, reduceIte]; rfl
      · simp only [ne_eq, h1, h2, not_true_eq_false, if_false, if_true, reduceIte, List.length_map]
    · simp only [ne_eq, h1, not_false_eq_true, if_true, reduceIte]
  have hl1 : (crO l w).1.length ≤ 10000 ∧ (crO l w).2.1.length ≤ 10000 := by
    unfold crO
    have h1 := hlen true
    have h2 := hlen false
    split
    · simp
    · split
      · simp
      · simp only [List.length_map]; exact ⟨h1, h2⟩
  generalize cntF l w n = out at e ⊢
  generalize crO l w = c at hX e hl1
  obtain ⟨s, t, c⟩ := c
  dsimp only at hX e hl1
  refine Ok.enter Tryz.func12 rfl _ Tryz.ntmps12 rfl ?_
  intro S w0
  refine Qw ?_
  refine Qq (fun K hK => ?_)
  refine Xv 0 rfl rfl rfl rfl rfl rfl rfl ?_
  refine Qf 1 rfl rfl (by with_reducible exact zvCn) rfl rfl rfl ?_
  (refine Qv rfl rfl rfl ?_; refine Qj (hK _ _ (Qz (Qw (Qw ?_)))); clear hK K; refine Qq (fun K hK => ?_); refine Qx rfl rfl rfl ?_; refine Qk ilss rfl rfl rfl rfl ?_; refine Qx rfl rfl rfl ?_)
  refine Q4 13 rfl (fun h1 => ?_) (fun h1 => ?_)
  · rw [if_pos (.inl h1)] at e
    (refine Qy rfl rfl rfl ?_; refine Qy rfl rfl rfl ?_; refine QV rfl rfl rfl rfl ?_; refine Qj (hK _ _ (Qz (Qo rfl (Qw ?_)))); clear hK K; refine Qq (fun K hK => ?_))
    refine Qr rfl (by with_reducible exact bCn) rfl .nil rfl ?_
    (refine Q9 5 rfl rfl rfl rfl rfl (by with_reducible exact szCn) rfl rfl ?_; refine Qv rfl rfl rfl ?_; refine Qj (hK _ _ (Qz (Q0 (QW ?_)))); clear hK K)
    refine QU [_, _] rfl (Qi (n := 5) rfl rfl (by with_reducible exact lCn) rfl (Qu rfl QQ)) (by rw [e]; rfl) rfl
  (refine Qx rfl rfl rfl ?_; refine Qk igtr rfl rfl rfl rfl ?_; refine QK rfl rfl rfl rfl ?_; refine Qj (hK _ _ (Qz ?_)); clear hK K)
  refine Q2 rfl (fun h2 => ?_) (fun h2 => ?_)
  · rw [if_pos (.inr h2)] at e
    (refine Qw (Qq fun K hK => ?_))
    refine Qr rfl (by with_reducible exact bCn) rfl .nil rfl ?_
    (refine Q9 5 rfl rfl rfl rfl rfl (by with_reducible exact szCn) rfl rfl ?_; refine Qv rfl rfl rfl ?_; refine Qj (hK _ _ (Qz (Q0 (QW ?_)))); clear hK K)
    refine QU [_, _] rfl (Qi (n := 5) rfl rfl (by with_reducible exact lCn) rfl (Qu rfl QQ)) (by rw [e]; rfl) rfl
  rw [if_neg (fun h => h.elim h1 h2)] at e
  (refine Q1 (Qz (Qw (Qq fun K hK => ?_))); refine Qx rfl rfl rfl ?_; refine Q6 (n := 2) rfl rfl rfl rfl rfl (by with_reducible first | exact Zs | exact Z2 | exact lCs) rfl ?_)
  refine QY goCrosses hX rfl rfl rfl rfl ?_
  (refine Qx rfl rfl rfl ?_; refine Q5 rfl rfl rfl rfl ?_; refine Q5 rfl rfl rfl rfl ?_; refine Q5 rfl rfl rfl rfl ?_; refine Qv rfl rfl rfl ?_; refine Qv rfl rfl rfl ?_; refine Qv rfl rfl rfl ?_; refine Qj (hK _ _ (Qz (Qw (Qw ?_)))); clear hK K; refine Qq (fun K hK => ?_); refine Qx rfl rfl rfl ?_; refine Qk ineq rfl rfl rfl rfl ?_; refine Qj (hK _ _ (Qz ?_)); clear hK K)
  refine Q2 rfl (fun h3 => ?_) (fun h3 => ?_)
  · rw [if_pos h3] at e
    (refine Qw (Qq fun K hK => ?_))
    refine Qr rfl (by with_reducible exact bCn) rfl .nil rfl ?_
    (refine Qx rfl rfl rfl ?_; refine Q9 5 rfl rfl rfl rfl rfl (by with_reducible exact szCn) rfl rfl ?_; refine Qv rfl rfl rfl ?_; refine Qj (hK _ _ (Qz (Q0 (QW ?_)))); clear hK K)
    refine QU [_, _] rfl (Qi (n := 5) rfl rfl (by with_reducible exact lCn) rfl (Qu rfl QQ)) (by rw [e]; rfl) rfl
  rw [if_neg h3] at e
  (refine Q1 (Qz (Qw (Qq fun K hK => ?_))); refine Q6 (n := 2) rfl rfl rfl rfl rfl (by with_reducible first | exact Zs | exact Z2 | exact lCs) rfl ?_; refine Qx rfl rfl rfl ?_; refine Qg rfl rfl (by with_reducible first | exact sTks.und | exact sWrs.und | exact sIks.und | exact sAdrs.und) (List.length_map ..) rfl ?_; refine Qx rfl rfl rfl ?_; refine Qg rfl rfl (by with_reducible first | exact sTks.und | exact sWrs.und | exact sIks.und | exact sAdrs.und) (List.length_map ..) rfl ?_; refine Qk (iadd (by omega) (by omega)) rfl rfl rfl rfl ?_; refine Qx rfl rfl rfl ?_; refine Qg rfl rfl (by with_reducible first | exact sTks.und | exact sWrs.und | exact sIks.und | exact sAdrs.und) (List.length_map ..) rfl ?_)
  refine Qr rfl (by with_reducible exact bCs) rfl (.one rfl rfl rfl rfl (.one rfl rfl rfl rfl .nil)) rfl ?_
  (refine Qx rfl rfl rfl ?_)
  refine QY gocounted (counted_ok w (s.length + t.length) t.length n (by omega) (by omega) (by omega)) rfl rfl rfl rfl ?_
  (refine Q9 5 rfl rfl rfl rfl rfl (by with_reducible exact szCn) rfl rfl ?_; refine Qv rfl rfl rfl ?_; refine Qj (hK _ _ (Qz (Q0 ?_))); clear hK K)
  refine QU [_, _] rfl (Qi (n := 5) rfl rfl (by with_reducible exact lCn) rfl (Qu rfl QQ)) (by rw [e]; rfl) rfl
theorem keyWrE : KeyT Tryz.prog 37 wrE := keyWr
theorem goAll : InGo Tryz.prog 17 := InGo.of Tryz.func17 rfl (by decide)
set_option maxHeartbeats 16000000 in
theorem All_ok (l : List Rs) (hl : l.length ≤ 10000) (n : Int) : Ok Tryz.prog 17 [rssC l, intC n] (.fr (tupT [cnsC (alO l n).1, intC (alO l n).2])) := by
  have hC := check_ok l hl
  have hT := Travel_ok l hl
  have hO := Order_ok l hl
  have hW := fun v hv r al hal => Way_ok l hl v hv r al hal
  have hwl := wayF_len l
  have e : alO l n = if n < 0 ∨ 1048576 < n then ([], 1) else if ¬ chkF l = 0 then ([], chkF l)
    else ((sd cmpW ((tickF (wayF l) (sd cmpR (l.filter okR))).map (·.1))).map (cnOf (tickF (wayF l) (sd cmpR (l.filter okR))) n), 0) := rfl
  have hol : (sd cmpR (l.filter okR)).length ≤ 10000 := by
    have := sd_len cmpR (l.filter okR)
    have := List.length_filter_le okR l
    omega
  generalize chkF l = c at hC e
  generalize wayF l = wy at hW e hwl
  generalize sd cmpR (l.filter okR) = o at hO e hol
  generalize alO l n = out at e ⊢
  generalize owF l = om at hT hW
  refine Ok.enter Tryz.func17 rfl _ Tryz.ntmps17 rfl ?_
  intro S w0
  (refine Qw (Qq fun K hK => ?_); refine Qv rfl rfl rfl ?_; refine Qv rfl rfl rfl ?_; refine Qj (hK _ _ (Qz (Qw (Qw ?_)))); clear hK K; refine Qq (fun K hK => ?_); refine Qx rfl rfl rfl ?_; refine Qk ilss rfl rfl rfl rfl ?_; refine Qx rfl rfl rfl ?_)
  refine Q4 20 rfl (fun h1 => ?_) (fun h1 => ?_)
  · rw [if_pos (.inl h1)] at e
    (refine Qy rfl rfl rfl ?_; refine Qy rfl rfl rfl ?_; refine QV rfl rfl rfl rfl ?_; refine Qj (hK _ _ (Qz (Qo rfl (Qw ?_)))); clear hK K; refine Qq (fun K hK => ?_); refine Qv rfl rfl rfl ?_; refine Qv rfl rfl rfl ?_; refine Qj (hK _ _ (Qz (Q0 (QW ?_)))); clear hK K)
    refine QU [_, _] rfl (X0 Z1 (Qu rfl (Qu rfl QQ))) (by rw [e]; rfl) rfl
  (refine Qx rfl rfl rfl ?_; refine Qk igtr rfl rfl rfl rfl ?_; refine QK rfl rfl rfl rfl ?_; refine Qj (hK _ _ (Qz ?_)); clear hK K)
  refine Q2 rfl (fun h2 => ?_) (fun h2 => ?_)
  · rw [if_pos (.inr h2)] at e
    (refine Qw (Qq fun K hK => ?_); refine Qv rfl rfl rfl ?_; refine Qv rfl rfl rfl ?_; refine Qj (hK _ _ (Qz (Q0 (QW ?_)))); clear hK K)
    refine QU [_, _] rfl (X0 Z1 (Qu rfl (Qu rfl QQ))) (by rw [e]; rfl) rfl
  rw [if_neg (fun h => h.elim h1 h2)] at e
  (refine Q1 (Qz (Qw (Qw (Qq fun K hK => ?_)))); refine Qx rfl rfl rfl ?_)
  refine QY gocheck hC rfl rfl rfl rfl ?_
  (refine Qv rfl rfl rfl ?_; refine Qj (hK _ _ (Qz (Qw ?_))); clear hK K; refine Qq (fun K hK => ?_); refine Qx rfl rfl rfl ?_; refine Qk ineq rfl rfl rfl rfl ?_; refine Qj (hK _ _ (Qz ?_)); clear hK K)
  refine Q2 rfl (fun h3 => ?_) (fun h3 => ?_)
  · rw [if_pos h3] at e
    (refine Qw (Qq fun K hK => ?_); refine Qx rfl rfl rfl ?_; refine Qv rfl rfl rfl ?_; refine Qv rfl rfl rfl ?_; refine Qj (hK _ _ (Qz (Q0 (QW ?_)))); clear hK K)
    refine QU [_, _] rfl (X0 Z1 (Qu rfl (Qu rfl QQ))) (by rw [e]; rfl) rfl
  rw [if_neg h3] at e
  (refine Q1 (Qz (Qw (Qq fun K hK => ?_))); refine Qx rfl rfl rfl ?_)
  refine Ops.callNew 8 gotravel hT rfl rfl rfl (fun _ h => h.elim) rfl rfl rfl (fun v hv => ?_)
  refine Qf 1 rfl rfl (by with_reducible exact zvTrav) rfl rfl rfl ?_
  refine Q9 2 rfl rfl rfl rfl (by show (true && (Value.oneCell' v && true)) = true; rw [hv]; rfl) (by with_reducible exact szTrav) rfl rfl ?_
  (refine Qj (hK _ _ (Qz (Qw ?_))); clear hK K; refine Qq (fun K hK => ?_))
  refine Ops.mkMap 5 rfl rfl rfl rfl rfl (fun va hva => ?_)
  (refine Qv rfl rfl rfl ?_; refine Qj (hK _ _ (Qz (Qw (Qw ?_)))); clear hK K; refine Qq (fun K hK => ?_); refine Qx rfl rfl rfl ?_)
  refine Zb 3 goOrder hO rfl rfl rfl rfl rfl rfl ?_
  refine Xp 3 _ rfl (ZX _ _) X3 ?_
  (refine Qg rfl rfl (by with_reducible exact sRes.und) (List.length_map ..) rfl ?_; refine Qx rfl rfl rfl ?_; refine Qj (hK _ _ (Qz (Q8 ?_))); clear hK K)
  refine Xw (α := Nat × KnM) (fun q => q.1 ≤ o.length ∧ knOk l q.2)
    (fun q => [(1, .ct (intC n)), (7, .own 1), (8, .ct (.ex va)), (33, .ct (rssC o)), (34, .ct (intC o.length)), (35, .ct (intC q.1))])
    (fun q => [(8, .mpx v (knM q.2)), (5, .mpx va (alKv (tickF wy (o.take q.1)))), (1, .box 94 [.fr (mapT (owM om)), .ex v])])
    (fun q => o.length - q.1) (0, []) ⟨Nat.zero_le _, fun _ _ h => by cases h⟩ (Entails.front 8 _ rfl <| by exact QX rfl ⟨rfl, rfl, rfl, rfl, rfl, rfl, trivial⟩) ?_
  intro ⟨i, m⟩ ⟨hi, hm⟩
  try dsimp only at hi hm ⊢
  (refine Qw (Qq fun K hK => ?_); refine Qk ilss rfl rfl rfl rfl ?_; refine Qj (hK _ _ (Qz (Qw ?_))); clear hK K)
  refine Q2 rfl (fun h => ?_) (fun h => ?_)
  · have e2 : (i : Int).toNat = i := Int.toNat_natCast i
    have hs : tickF wy (o.take (i + 1)) = tickR wy (tickF wy (o.take i)) (o.getD i rs0) := foldl_take (tickR wy) _ (by omega)
    have hbd := fun w => tick_bound wy w (o.take i)
    have htl : (o.take i).length ≤ 10000 := by rw [List.length_take]; omega
    (refine Q1 (Qz (Qw (Q8 (Qw (Qq fun K hK => ?_))))); refine Qn rfl rfl rfl (by with_reducible exact sRes) (by omega) (Zc (by omega) (by omega)) rfl ?_; refine X4 (n := 17) rfl rfl rfl (by with_reducible exact lRes) rfl rfl ?_; refine Qf 0 rfl rfl (by with_reducible exact zvRes) rfl rfl rfl ?_; refine Q9 17 rfl rfl rfl rfl rfl (by with_reducible exact szRes) rfl rfl ?_; refine Qj (hK _ _ (Qz (Qw ?_))); clear hK K; refine Qq (fun K hK => ?_))
    rw [e2]
    generalize o.getD i rs0 = x at hs
    have hwx := hwl x
    generalize tickF wy (o.take i) = M at hs hbd ⊢
    refine Ops.mkMap 4 rfl rfl rfl rfl rfl (fun vc hvc => ?_)
    (refine Qv rfl rfl rfl ?_; refine Qj (hK _ _ (Qz (Qw ?_))); clear hK K; refine Qq (fun K hK => ?_); refine Q6 (n := 2) rfl rfl rfl rfl rfl (by with_reducible first | exact Zs | exact Z2 | exact lCs) rfl ?_; refine Q6 (n := 17) rfl rfl rfl rfl rfl (by with_reducible exact lRes) rfl ?_)
    refine Ops.call1 (As := [travC om v, rsC x]) 8 goway (hW v hv x m hm) rfl rfl rfl (fun _ h => h.elim) rfl (fun p hp => absurd hp (by simp)) (fun q j hq => by rcases hq with hq | ⟨_, hq⟩ <;> cases hq) (fun m' hm' => ?_)
    (refine Qg rfl rfl (by with_reducible first | exact sTks.und | exact sWrs.und | exact sIks.und | exact sAdrs.und) (List.length_map ..) rfl ?_; refine Qx rfl rfl rfl ?_; refine Qj (hK _ _ (Qz (Q8 ?_))); clear hK K)
    refine Xw (α := Nat) (fun k => k ≤ (wy x).length)
      (fun k => [(1, .ct (intC n)), (7, .own 1), (8, .ct (.ex va)), (10, .own 0), (11, .ct (.ex vc)), (33, .ct (rssC o)), (34, .ct (intC o.length)), (35, .ct (intC i)), (42, .ct (wrsC (wy x))), (43, .ct (intC (wy x).length)), (44, .ct (intC k))])
      (fun k => [(8, .mpx v (knM m')), (4, .mpx vc (crKv (((wy x).take k).foldl (tickS x.an) (M, [])).2)), (0, .box 35 (rsCs x)), (5, .mpx va (alKv (((wy x).take k).foldl (tickS x.an) (M, [])).1)), (1, .box 94 [.fr (mapT (owM om)), .ex v])])
      (fun k => (wy x).length - k) 0 (Nat.zero_le _) (by exact QX rfl ⟨rfl, rfl, rfl, rfl, rfl, rfl, rfl, rfl, rfl, rfl, rfl, trivial⟩) ?_
    intro k hk
    try dsimp only at hk ⊢
    (refine Qw (Qq fun K hK => ?_); refine Qk ilss rfl rfl rfl rfl ?_; refine Qj (hK _ _ (Qz (Qw ?_))); clear hK K)
    refine Q2 rfl (fun h4 => ?_) (fun h4 => ?_)
    rotate_left
    · have hk' : k = (wy x).length := by omega
      have e4 : (((wy x).take k).foldl (tickS x.an) (M, [])).1 = tickR wy M x := by rw [hk', List.take_length]; rfl
      rw [e4]
      (refine Xq (Qz (Qq fun K hK => ?_)); refine Qk (iadd (by omega) (by omega)) rfl rfl rfl rfl ?_; refine Qx rfl rfl rfl ?_; refine Qj (hK _ _ (Q7 ?_)); clear hK K)
      refine Qt 4 ?_
      refine Qt 0 ?_
      refine Qc (i + 1, m') (by dsimp only; omega) ⟨by dsimp only; omega, hm'⟩ (by dsimp only; rw [hs]; exact QX rfl ⟨rfl, rfl, rfl, rfl, rfl, by simp only [Int.natCast_add]; rfl, trivial⟩)
    have e5 : (k : Int).toNat = k := Int.toNat_natCast k
    have hst : ((wy x).take (k + 1)).foldl (tickS x.an) (M, []) = tickS x.an (((wy x).take k).foldl (tickS x.an) (M, [])) ((wy x).getD k wr0) := foldl_take (tickS x.an) _ (by omega)
    have hbs : ∀ w, 0 ≤ ((look1 (((wy x).take k).foldl (tickS x.an) (M, [])).1 w).getD (0, 0)).2 ∧ ((look1 (((wy x).take k).foldl (tickS x.an) (M, [])).1 w).getD (0, 0)).2 ≤ ((look1 (((wy x).take k).foldl (tickS x.an) (M, [])).1 w).getD (0, 0)).1 ∧ ((look1 (((wy x).take k).foldl (tickS x.an) (M, [])).1 w).getD (0, 0)).1 ≤ 10001 := fun w => by
      rw [tickS_look x.an w _ (M, []) (fun _ h => h)]
      dsimp only
      have h := hbd w
      split
      · simp only [Option.getD_some, tickV]
        split <;> omega
      · exact ⟨h.1, h.2.1, by have := h.2.2; omega⟩
    (refine Q1 (Qz (Qw (Q8 (Qw (Qq fun K hK => ?_))))))
    refine Qn rfl rfl rfl (by with_reducible exact sWrs) (by omega) (wrs_at (by omega) (by omega)) rfl ?_
    rw [e5]
    generalize (wy x).getD k wr0 = w at hst
    generalize ((wy x).take k).foldl (tickS x.an) (M, []) = s at hst hbs ⊢
    obtain ⟨s1, s2⟩ := s
    have ht : tickS x.an (s1, s2) w = if (look1 s2 w).getD false = true then (s1, s2) else (ins s1 w (tickV x.an ((look1 s1 w).getD (0, 0))), ins s2 w true) := rfl
    rw [ht] at hst
    clear ht
    dsimp only at hbs ⊢
    have hb := hbs w
    have hN : (look1 s2 w).getD false = true ∨ (look1 s2 w).getD false = false := by cases (look1 s2 w).getD false <;> simp
    refine X4 (n := 2) rfl rfl rfl (by with_reducible exact Z2) rfl rfl ?_
    refine Qf 2 rfl rfl (by with_reducible exact zvWire) rfl rfl rfl ?_
    refine Q9 2 rfl rfl rfl rfl rfl (by with_reducible exact szWire) rfl rfl ?_
    (refine Qj (hK _ _ (Qz (Qw (Qw ?_)))); clear hK K; refine Qq (fun K hK => ?_); refine Qx rfl rfl rfl ?_; refine Q6 (n := 2) rfl rfl rfl rfl rfl (by with_reducible first | exact Zs | exact Z2 | exact lCs) rfl ?_)
    refine Ops.lookM (i := 4) (cv := boolC) (enc := wrE) false w rfl rfl rfl rfl (KeyIs.agg (us := wr2 w) rfl) uMCr z0Bool (fun _ _ => rfl) keyWrE rfl ?_
    (refine Qj (hK _ _ (Qz ?_)); clear hK K)
    refine XQ rfl (fun h5 => ?_) (fun h5 => ?_)
    · rw [if_pos h5] at hst
      (refine Xq (Qz (Qq fun K hK => ?_)); refine Qk (iadd (by omega) (by omega)) rfl rfl rfl rfl ?_; refine Qx rfl rfl rfl ?_; refine Qj (hK _ _ (Q7 ?_)); clear hK K)
      refine Qt 2 ?_
      refine Qc (k + 1) (by omega) (by omega) (by rw [hst]; exact QX rfl ⟨rfl, rfl, rfl, rfl, rfl, rfl, rfl, rfl, rfl, rfl, by simp only [Int.natCast_add]; rfl, trivial⟩)
    rw [if_neg (by rw [h5]; decide)] at hst
    (refine Q1 (Qz (Qw (Qq fun K hK => ?_))); refine Qx rfl rfl rfl ?_; refine Q6 (n := 2) rfl rfl rfl rfl rfl (by with_reducible first | exact Zs | exact Z2 | exact lCs) rfl ?_)
    refine Xx (i := 4) (enc := wrE) (cv := boolC) w true rfl rfl rfl (KeyIs.agg (us := wr2 w) rfl) rfl uMCr keyWrE ?_
    (refine Qj (hK _ _ (Qz (Qw ?_))); clear hK K; refine Qq (fun K hK => ?_); refine Qx rfl rfl rfl ?_; refine Q6 (n := 2) rfl rfl rfl rfl rfl (by with_reducible first | exact Zs | exact Z2 | exact lCs) rfl ?_)
    refine Ops.lookM (i := 5) (cv := csC) (enc := wrE) (0, 0) w rfl rfl rfl rfl (KeyIs.agg (us := wr2 w) rfl) uMAll z0Cs csZ keyWrE rfl ?_
    generalize (look1 s1 w).getD (0, 0) = cc at hst hb
    obtain ⟨c1, c2⟩ := cc
    dsimp only at hb
    unfold tickV at hst
    dsimp only at hst
    refine Qf 3 rfl rfl (by with_reducible exact zvCs) rfl rfl rfl ?_
    refine Q9 2 rfl rfl rfl rfl rfl (by with_reducible exact szCs) rfl rfl ?_
    (refine Qj (hK _ _ (Qz (Qw ?_))); clear hK K; refine Qq (fun K hK => ?_); refine QZ rfl rfl rfl (by with_reducible first | exact fTk0 | exact fTk1 | exact fTk2 | exact fWr0 | exact fWr1 | exact XW | exact XK | exact Xe | exact fStm1 | exact fCn0 | exact fCn1 | exact fCn2 | exact fCn3 | exact fCs0 | exact fCs1) rfl ?_; refine QJ rfl rfl rfl rfl rfl (by with_reducible first | exact lInt | exact Qd | exact Q3 | exact lRess) rfl ?_; refine Qk (iadd (by omega) (by omega)) rfl rfl rfl rfl ?_; refine QZ rfl rfl rfl (by with_reducible first | exact fTk0 | exact fTk1 | exact fTk2 | exact fWr0 | exact fWr1 | exact XW | exact XK | exact Xe | exact fStm1 | exact fCn0 | exact fCn1 | exact fCn2 | exact fCn3 | exact fCs0 | exact fCs1) rfl ?_; refine X6 rfl rfl rfl rfl rfl (by with_reducible first | exact zInt | exact zAddr | exact zClaims) (Nat.le_of_ble_eq_true rfl) ?_; refine Qj (hK _ _ (Qz (Qw (Qw ?_)))); clear hK K; refine Qq (fun K hK => ?_); refine QZ rfl rfl rfl (by with_reducible first | exact fS0 | exact fS1 | exact fS2 | exact fS3 | exact fS4 | exact fS5 | exact fS6 | exact fS7 | exact fS8 | exact fS9 | exact fS10 | exact fS11 | exact fN0 | exact fN1 | exact fN2 | exact fN3 | exact fN4 | exact fN5) rfl ?_; refine QJ rfl rfl rfl rfl rfl (by with_reducible first | exact lInt | exact Qd | exact Q3 | exact lRess) rfl ?_; refine Qm rfl rfl rfl ?_; refine Qj (hK _ _ (Qz ?_)); clear hK K)
    refine XQ rfl (fun h6 => ?_) (fun h6 => ?_)
    · rw [if_neg (by simpa using h6)] at hst
      (refine Qq (fun K hK => ?_); refine QZ rfl rfl rfl (by with_reducible first | exact fTk0 | exact fTk1 | exact fTk2 | exact fWr0 | exact fWr1 | exact XW | exact XK | exact Xe | exact fStm1 | exact fCn0 | exact fCn1 | exact fCn2 | exact fCn3 | exact fCs0 | exact fCs1) rfl ?_; refine QJ rfl rfl rfl rfl rfl (by with_reducible first | exact lInt | exact Qd | exact Q3 | exact lRess) rfl ?_; refine Qk (iadd (by omega) (by omega)) rfl rfl rfl rfl ?_; refine QZ rfl rfl rfl (by with_reducible first | exact fTk0 | exact fTk1 | exact fTk2 | exact fWr0 | exact fWr1 | exact XW | exact XK | exact Xe | exact fStm1 | exact fCn0 | exact fCn1 | exact fCn2 | exact fCn3 | exact fCs0 | exact fCs1) rfl ?_; refine X6 rfl rfl rfl rfl rfl (by with_reducible first | exact zInt | exact zAddr | exact zClaims) (Nat.le_of_ble_eq_true rfl) ?_; refine Qj (hK _ _ (Qz ?_)); clear hK K; refine Qq (fun K hK => ?_); refine Qx rfl rfl rfl ?_; refine Q6 (n := 2) rfl rfl rfl rfl rfl (by with_reducible first | exact Zs | exact Z2 | exact lCs) rfl ?_; refine Q6 (n := 2) rfl rfl rfl rfl rfl (by with_reducible first | exact Zs | exact Z2 | exact lCs) rfl ?_)
      refine Xx (i := 5) (enc := wrE) (cv := csC) w (c1 + 1, c2 + 1) rfl rfl rfl (KeyIs.agg (us := wr2 w) rfl) rfl uMAll keyWrE ?_
      (refine Qj (hK _ _ (Qz ?_)); clear hK K; refine Qq (fun K hK => ?_); refine Qk (iadd (by omega) (by omega)) rfl rfl rfl rfl ?_; refine Qx rfl rfl rfl ?_; refine Qj (hK _ _ (Q7 ?_)); clear hK K)
      refine Qt 3 ?_
      refine Qt 2 ?_
      refine Qc (k + 1) (by omega) (by omega) (by rw [hst]; exact QX rfl ⟨rfl, rfl, rfl, rfl, rfl, rfl, rfl, rfl, rfl, rfl, by simp only [Int.natCast_add]; rfl, trivial⟩)
    · rw [if_pos (by simpa using h6)] at hst
      (refine Q1 (Qz (Qq fun K hK => ?_)); refine Qx rfl rfl rfl ?_; refine Q6 (n := 2) rfl rfl rfl rfl rfl (by with_reducible first | exact Zs | exact Z2 | exact lCs) rfl ?_; refine Q6 (n := 2) rfl rfl rfl rfl rfl (by with_reducible first | exact Zs | exact Z2 | exact lCs) rfl ?_)
      refine Xx (i := 5) (enc := wrE) (cv := csC) w (c1 + 1, c2) rfl rfl rfl (KeyIs.agg (us := wr2 w) rfl) rfl uMAll keyWrE ?_
      (refine Qj (hK _ _ (Qz ?_)); clear hK K; refine Qq (fun K hK => ?_); refine Qk (iadd (by omega) (by omega)) rfl rfl rfl rfl ?_; refine Qx rfl rfl rfl ?_; refine Qj (hK _ _ (Q7 ?_)); clear hK K)
      refine Qt 3 ?_
      refine Qt 2 ?_
      refine Qc (k + 1) (by omega) (by omega) (by rw [hst]; exact QX rfl ⟨rfl, rfl, rfl, rfl, rfl, rfl, rfl, rfl, rfl, rfl, by simp only [Int.natCast_add]; rfl, trivial⟩)
  have hi' : i = o.length := by omega
  rw [hi', List.take_length]
  have hMn : ((tickF wy o).map (·.1)).Nodup := tickF_nodup wy o [] List.nodup_nil
  have hMl := tickF_len wy 256 hwl o []
  have hMl : (tickF wy o).length ≤ 2560000 := by
    have h9 : (tickF wy o).length ≤ 0 + o.length * 256 := hMl
    omega
  have hbd := fun w => tick_bound wy w o
  have hsl : (sd cmpW ((tickF wy o).map (·.1))).length ≤ 2560000 := by
    have := sd_len cmpW ((tickF wy o).map (·.1))
    rw [List.length_map] at this
    omega
  have hSW := SortedW_ok csC (tickF wy o) (by omega) hMn
  generalize sd cmpW ((tickF wy o).map (·.1)) = ws at e hSW hsl
  generalize tickF wy o = M at e hSW hbd ⊢
  refine St.frzMs 5 8 rfl rfl X3 ?_
  (refine Xq (Qz (Qw (Qq fun K hK => ?_))); refine Qv rfl rfl rfl ?_; refine Qj (hK _ _ (Qz (Qw (Qw ?_)))); clear hK K; refine Qq (fun K hK => ?_); refine Qx rfl rfl rfl ?_)
  refine QY goKeys (Keys_ok (alKv M)) rfl rfl rfl rfl ?_
  refine Zb 4 goSortedW hSW rfl rfl rfl rfl rfl rfl ?_
  refine Xp 4 _ rfl (wrs_frozen _ _) X3 ?_
  (refine Qg rfl rfl (by with_reducible first | exact sTks.und | exact sWrs.und | exact sIks.und | exact sAdrs.und) (List.length_map ..) rfl ?_; refine Qx rfl rfl rfl ?_; refine Qj (hK _ _ (Qz (Q8 ?_))); clear hK K)
  refine Zq 15 7 39 5 rfl rfl rfl ?_
  refine Xw (α := Nat) (fun j => j ≤ ws.length)
    (fun j => [(1, .ct (intC n)), (8, .ct (.fr (mapT (alKv M)))), (15, .own 7), (74, .ct (wrsC ws)), (75, .ct (intC ws.length)), (76, .ct (intC j))])
    (fun j => [(7, .row 39 5 (cns ((ws.take j).map (cnOf M n)))), (8, .mpx v (knM m)), (1, .box 94 [.fr (mapT (owM om)), .ex v])])
    (fun j => ws.length - j) 0 (Nat.zero_le _) (by exact QX rfl ⟨rfl, rfl, rfl, rfl, rfl, rfl, trivial⟩) ?_
  intro j hj
  try dsimp only at hj ⊢
  (refine Qw (Qq fun K hK => ?_); refine Qk ilss rfl rfl rfl rfl ?_; refine Qj (hK _ _ (Qz (Qw ?_))); clear hK K)
  refine Q2 rfl (fun h4 => ?_) (fun h4 => ?_)
  · have e2 : (j : Int).toNat = j := Int.toNat_natCast j
    have hs : (ws.take (j + 1)).map (cnOf M n) = (ws.take j).map (cnOf M n) ++ [cnOf M n (ws.getD j wr0)] := by
      rw [List.take_add_one, List.getElem?_eq_getElem (by omega), List.getD_eq_getElem?_getD, List.getElem?_eq_getElem (by omega), List.map_append]; rfl
    have hlt : ((ws.take j).map (cnOf M n)).length = j := by rw [List.length_map, List.length_take]; omega
    (refine Q1 (Qz (Qw (Q8 (Qw (Qq fun K hK => ?_))))))
    refine Qn rfl rfl rfl (by with_reducible exact sWrs) (by omega) (wrs_at (by omega) (by omega)) rfl ?_
    rw [e2]
    generalize ws.getD j wr0 = w at hs
    generalize (ws.take j).map (cnOf M n) = q at hs hlt ⊢
    have hb := hbd w
    have hcn : cnOf M n w = ⟨w, ((look1 M w).getD (0, 0)).1, max 0 (((look1 M w).getD (0, 0)).2 - n), ((look1 M w).getD (0, 0)).2⟩ := rfl
    rw [hcn] at hs
    refine X4 (n := 2) rfl rfl rfl (by with_reducible exact Z2) rfl rfl ?_
    refine Qf 2 rfl rfl (by with_reducible exact zvWire) rfl rfl rfl ?_
    refine Q9 2 rfl rfl rfl rfl rfl (by with_reducible exact szWire) rfl rfl ?_
    (refine Qj (hK _ _ (Qz ?_)); clear hK K)
    refine XJ (by with_reducible exact mixed) 8 (.p 0 (.p 2 (.p 5 (.fork 1 (.m 3 (.m 4 (.m 6 (.m 7 (.a 8 (.p 9 .done)))))) 3 (.fork 1 (.m 4 (.m 6 (.m 7 (.a 8 (.p 9 .done))))) 4 (.m 1 (.m 6 (.m 7 (.a 8 (.p 9 .done)))))))))) (by kernel_rfl) (fun K hK => ?_)
    (refine Qx rfl rfl rfl ?_; refine Qx rfl rfl rfl ?_; refine Qx rfl rfl rfl ?_)
    refine Zh ?_ ?_
    · (refine Q6 (n := 2) rfl rfl rfl rfl rfl (by with_reducible first | exact Zs | exact Z2 | exact lCs) rfl ?_; refine Q6 (n := 2) rfl rfl rfl rfl rfl (by with_reducible first | exact Zs | exact Z2 | exact lCs) rfl ?_)
      refine Ops.lookF (cv := csC) (enc := wrE) (0, 0) w rfl rfl rfl (KeyIs.agg (us := wr2 w) rfl) uMAll z0Cs csZ keyWrE rfl ?_
      skip
      refine QY gocounted (counted_ok w ((look1 M w).getD (0, 0)).1 ((look1 M w).getD (0, 0)).2 n (by omega) (by omega) (by omega)) rfl rfl rfl rfl ?_
      refine X9 (n := 5) rfl rfl (by with_reducible exact sCns) rfl rfl (by decide) rfl ?_
      refine Qs j (cns (q ++ [⟨w, ((look1 M w).getD (0, 0)).1, max 0 (((look1 M w).getD (0, 0)).2 - n), ((look1 M w).getD (0, 0)).2⟩])) rfl rfl rfl rfl (by with_reducible exact sCns) (by rw [cns_len, hlt]) rfl (by omega) (by omega) (cns_snoc _ _) rfl ?_
      (refine Qv rfl rfl rfl ?_; refine Qj (hK _ _ (Qz ?_)); clear hK K; refine Qq (fun K hK => ?_); refine Qk (iadd (by omega) (by omega)) rfl rfl rfl rfl ?_; refine Qx rfl rfl rfl ?_; refine Qj (hK _ _ (Q7 ?_)); clear hK K)
      refine Qt 2 ?_
      refine Qc (j + 1) (by omega) (by omega) (by rw [hs]; exact QX rfl ⟨rfl, rfl, rfl, rfl, rfl, by simp only [Int.natCast_add]; rfl, trivial⟩)
    · (refine Q6 (n := 2) rfl rfl rfl rfl rfl (by with_reducible first | exact Zs | exact Z2 | exact lCs) rfl ?_)
      refine Zh ?_ ?_
      · (refine Q6 (n := 2) rfl rfl rfl rfl rfl (by with_reducible first | exact Zs | exact Z2 | exact lCs) rfl ?_)
        refine Ops.lookF (cv := csC) (enc := wrE) (0, 0) w rfl rfl rfl (KeyIs.agg (us := wr2 w) rfl) uMAll z0Cs csZ keyWrE rfl ?_
        skip
        refine QY gocounted (counted_ok w ((look1 M w).getD (0, 0)).1 ((look1 M w).getD (0, 0)).2 n (by omega) (by omega) (by omega)) rfl rfl rfl rfl ?_
        refine X9 (n := 5) rfl rfl (by with_reducible exact sCns) rfl rfl (by decide) rfl ?_
        refine Qs j (cns (q ++ [⟨w, ((look1 M w).getD (0, 0)).1, max 0 (((look1 M w).getD (0, 0)).2 - n), ((look1 M w).getD (0, 0)).2⟩])) rfl rfl rfl rfl (by with_reducible exact sCns) (by rw [cns_len, hlt]) rfl (by omega) (by omega) (cns_snoc _ _) rfl ?_
        (refine Qv rfl rfl rfl ?_; refine Qj (hK _ _ (Qz ?_)); clear hK K; refine Qq (fun K hK => ?_); refine Qk (iadd (by omega) (by omega)) rfl rfl rfl rfl ?_; refine Qx rfl rfl rfl ?_; refine Qj (hK _ _ (Q7 ?_)); clear hK K)
        refine Qt 2 ?_
        refine Qc (j + 1) (by omega) (by omega) (by rw [hs]; exact QX rfl ⟨rfl, rfl, rfl, rfl, rfl, by simp only [Int.natCast_add]; rfl, trivial⟩)
      · skip
        refine Ops.lookF (cv := csC) (enc := wrE) (0, 0) w rfl rfl rfl (KeyIs.agg (us := wr2 w) rfl) uMAll z0Cs csZ keyWrE rfl ?_
        (refine Q6 (n := 2) rfl rfl rfl rfl rfl (by with_reducible first | exact Zs | exact Z2 | exact lCs) rfl ?_)
        refine QY gocounted (counted_ok w ((look1 M w).getD (0, 0)).1 ((look1 M w).getD (0, 0)).2 n (by omega) (by omega) (by omega)) rfl rfl rfl rfl ?_
        refine X9 (n := 5) rfl rfl (by with_reducible exact sCns) rfl rfl (by decide) rfl ?_
        refine Qs j (cns (q ++ [⟨w, ((look1 M w).getD (0, 0)).1, max 0 (((look1 M w).getD (0, 0)).2 - n), ((look1 M w).getD (0, 0)).2⟩])) rfl rfl rfl rfl (by with_reducible exact sCns) (by rw [cns_len, hlt]) rfl (by omega) (by omega) (cns_snoc _ _) rfl ?_
        (refine Qv rfl rfl rfl ?_; refine Qj (hK _ _ (Qz ?_)); clear hK K; refine Qq (fun K hK => ?_); refine Qk (iadd (by omega) (by omega)) rfl rfl rfl rfl ?_; refine Qx rfl rfl rfl ?_; refine Qj (hK _ _ (Q7 ?_)); clear hK K)
        refine Qt 2 ?_
        refine Qc (j + 1) (by omega) (by omega) (by rw [hs]; exact QX rfl ⟨rfl, rfl, rfl, rfl, rfl, by simp only [Int.natCast_add]; rfl, trivial⟩)
  have hj' : j = ws.length := by omega
  rw [hj', List.take_length]
  generalize ws.map (cnOf M n) = r at e ⊢
  (refine Xq (Qz (Qw (Qq fun K hK => ?_))); refine Qx rfl rfl rfl ?_; refine Qv rfl rfl rfl ?_; refine Qv rfl rfl rfl ?_; refine Qj (hK _ _ (Qz (Q0 ?_))); clear hK K)
  refine Yq 7 _ rfl (cns_frozen _ _) X3 ?_
  refine QU [_, _] rfl (Qu rfl (Qu rfl QQ)) (by rw [e]; rfl) rfl
def frZ : Fr := ⟨false, 0, 0⟩
def rateC (c : Cn) : CT := if c.lo < 0 ∨ c.hi < c.lo ∨ c.se < c.hi ∨ c.se < 1 then .fr (tupT [fracC frZ, fracC frZ, intC 1]) else .fr (tupT [ratC (Rat.divInt c.lo c.se), ratC (Rat.divInt c.hi c.se), intC 0])
theorem goRate : InGo Tryz.prog 19 := InGo.of Tryz.func19 rfl (by decide)
set_option maxHeartbeats 8000000 in
theorem Rate_ok (c : Cn) (h1 : -9223372036854775808 ≤ c.lo ∧ c.lo < 9223372036854775808) (h2 : -9223372036854775808 ≤ c.hi ∧ c.hi < 9223372036854775808) (h3 : -9223372036854775808 ≤ c.se ∧ c.se < 1073741824) : Ok Tryz.prog 19 [cnC c] (rateC c) := by
  have e : rateC c = if c.lo < 0 ∨ c.hi < c.lo ∨ c.se < c.hi ∨ c.se < 1 then .fr (tupT [fracC frZ, fracC frZ, intC 1]) else .fr (tupT [ratC (Rat.divInt c.lo c.se), ratC (Rat.divInt c.hi c.se), intC 0]) := rfl
  generalize rateC c = out at e ⊢
  refine Ok.enter Tryz.func19 rfl _ Tryz.ntmps19 rfl ?_
  intro S w0
  refine Qw ?_
  refine Qq (fun K hK => ?_)
  refine Xv 0 rfl rfl rfl rfl rfl rfl rfl ?_
  refine Qf 1 rfl rfl (by with_reducible exact zvFrac) rfl rfl rfl ?_
  refine Qf 2 rfl rfl (by with_reducible exact zvFrac) rfl rfl rfl ?_
  (refine Qv rfl rfl rfl ?_; refine Qj (hK _ _ (Qz (Qw (Qw ?_)))); clear hK K; refine Qq (fun K hK => ?_); refine QZ rfl rfl rfl (by with_reducible first | exact fTk0 | exact fTk1 | exact fTk2 | exact fWr0 | exact fWr1 | exact XW | exact XK | exact Xe | exact fStm1 | exact fCn0 | exact fCn1 | exact fCn2 | exact fCn3 | exact fCs0 | exact fCs1) rfl ?_; refine QJ rfl rfl rfl rfl rfl (by with_reducible first | exact lInt | exact Qd | exact Q3 | exact lRess) rfl ?_; refine Qk ilss rfl rfl rfl rfl ?_; refine Qx rfl rfl rfl ?_)
  refine Q4 8 rfl (fun g1 => ?_) (fun g1 => ?_)
  · rw [if_pos (.inl g1)] at e
    (refine Qy rfl rfl rfl ?_; refine Qy rfl rfl rfl ?_; refine Qy rfl rfl rfl ?_; refine Qy rfl rfl rfl ?_; refine Qy rfl rfl rfl ?_; refine QV rfl rfl rfl rfl ?_; refine Qx rfl rfl rfl ?_; refine Qy rfl rfl rfl ?_; refine Qy rfl rfl rfl ?_; refine Qy rfl rfl rfl ?_; refine Qy rfl rfl rfl ?_; refine Qy rfl rfl rfl ?_; refine QV rfl rfl rfl rfl ?_; refine Qx rfl rfl rfl ?_; refine Qy rfl rfl rfl ?_; refine Qy rfl rfl rfl ?_; refine Qy rfl rfl rfl ?_; refine QV rfl rfl rfl rfl ?_; refine Qj (hK _ _ (Qz (Qo rfl (Qw ?_)))); clear hK K; refine Qq (fun K hK => ?_))
    refine Qr rfl (by with_reducible exact bFrac) rfl .nil rfl ?_
    refine Qr rfl (by with_reducible exact bFrac) rfl .nil rfl ?_
    refine Q9 3 rfl rfl rfl rfl rfl (by with_reducible exact szFrac) rfl rfl ?_
    refine Q9 3 rfl rfl rfl rfl rfl (by with_reducible exact szFrac) rfl rfl ?_
    (refine Qv rfl rfl rfl ?_; refine Qj (hK _ _ (Qz (Q0 (QW ?_)))); clear hK K)
    refine QU [_, _, _] rfl (X0 (w_agg (ds := [boolC false, intsC [], intsC []]) (by exact ⟨w_same, Z1, Z1, trivial⟩)) (Qi (n := 3) rfl rfl (by with_reducible exact Xo) rfl (X0 (w_agg (ds := [boolC false, intsC [], intsC []]) (by exact ⟨w_same, Z1, Z1, trivial⟩)) (Qi (n := 3) rfl rfl (by with_reducible exact Xo) rfl (Qu rfl QQ))))) (by rw [e]; show CT.fr (tupT [.fr (aggT [boolC false, intsC (limbs 0), intsC (limbs 0)]), .fr (aggT [boolC false, intsC (limbs 0), intsC (limbs 0)]), intC 1]) = _; rw [limbs_zero]; rfl) rfl
  (refine QZ rfl rfl rfl (by with_reducible first | exact fTk0 | exact fTk1 | exact fTk2 | exact fWr0 | exact fWr1 | exact XW | exact XK | exact Xe | exact fStm1 | exact fCn0 | exact fCn1 | exact fCn2 | exact fCn3 | exact fCs0 | exact fCs1) rfl ?_; refine QJ rfl rfl rfl rfl rfl (by with_reducible first | exact lInt | exact Qd | exact Q3 | exact lRess) rfl ?_; refine QZ rfl rfl rfl (by with_reducible first | exact fTk0 | exact fTk1 | exact fTk2 | exact fWr0 | exact fWr1 | exact XW | exact XK | exact Xe | exact fStm1 | exact fCn0 | exact fCn1 | exact fCn2 | exact fCn3 | exact fCs0 | exact fCs1) rfl ?_; refine QJ rfl rfl rfl rfl rfl (by with_reducible first | exact lInt | exact Qd | exact Q3 | exact lRess) rfl ?_; refine Qk igtr rfl rfl rfl rfl ?_; refine QK rfl rfl rfl rfl ?_; refine Qx rfl rfl rfl ?_)
  refine Q4 15 rfl (fun g2 => ?_) (fun g2 => ?_)
  · rw [if_pos (.inr (.inl g2))] at e
    (refine Qy rfl rfl rfl ?_; refine Qy rfl rfl rfl ?_; refine Qy rfl rfl rfl ?_; refine Qy rfl rfl rfl ?_; refine Qy rfl rfl rfl ?_; refine QV rfl rfl rfl rfl ?_; refine Qx rfl rfl rfl ?_; refine Qy rfl rfl rfl ?_; refine Qy rfl rfl rfl ?_; refine Qy rfl rfl rfl ?_; refine QV rfl rfl rfl rfl ?_; refine Qj (hK _ _ (Qz (Qo rfl (Qw ?_)))); clear hK K; refine Qq (fun K hK => ?_))
    refine Qr rfl (by with_reducible exact bFrac) rfl .nil rfl ?_
    refine Qr rfl (by with_reducible exact bFrac) rfl .nil rfl ?_
    refine Q9 3 rfl rfl rfl rfl rfl (by with_reducible exact szFrac) rfl rfl ?_
    refine Q9 3 rfl rfl rfl rfl rfl (by with_reducible exact szFrac) rfl rfl ?_
    (refine Qv rfl rfl rfl ?_; refine Qj (hK _ _ (Qz (Q0 (QW ?_)))); clear hK K)
    refine QU [_, _, _] rfl (X0 (w_agg (ds := [boolC false, intsC [], intsC []]) (by exact ⟨w_same, Z1, Z1, trivial⟩)) (Qi (n := 3) rfl rfl (by with_reducible exact Xo) rfl (X0 (w_agg (ds := [boolC false, intsC [], intsC []]) (by exact ⟨w_same, Z1, Z1, trivial⟩)) (Qi (n := 3) rfl rfl (by with_reducible exact Xo) rfl (Qu rfl QQ))))) (by rw [e]; show CT.fr (tupT [.fr (aggT [boolC false, intsC (limbs 0), intsC (limbs 0)]), .fr (aggT [boolC false, intsC (limbs 0), intsC (limbs 0)]), intC 1]) = _; rw [limbs_zero]; rfl) rfl
  (refine QZ rfl rfl rfl (by with_reducible first | exact fTk0 | exact fTk1 | exact fTk2 | exact fWr0 | exact fWr1 | exact XW | exact XK | exact Xe | exact fStm1 | exact fCn0 | exact fCn1 | exact fCn2 | exact fCn3 | exact fCs0 | exact fCs1) rfl ?_; refine QJ rfl rfl rfl rfl rfl (by with_reducible first | exact lInt | exact Qd | exact Q3 | exact lRess) rfl ?_; refine QZ rfl rfl rfl (by with_reducible first | exact fTk0 | exact fTk1 | exact fTk2 | exact fWr0 | exact fWr1 | exact XW | exact XK | exact Xe | exact fStm1 | exact fCn0 | exact fCn1 | exact fCn2 | exact fCn3 | exact fCs0 | exact fCs1) rfl ?_; refine QJ rfl rfl rfl rfl rfl (by with_reducible first | exact lInt | exact Qd | exact Q3 | exact lRess) rfl ?_; refine Qk igtr rfl rfl rfl rfl ?_; refine QK rfl rfl rfl rfl ?_; refine Qx rfl rfl rfl ?_)
  refine Q4 22 rfl (fun g3 => ?_) (fun g3 => ?_)
  · rw [if_pos (.inr (.inr (.inl g3)))] at e
    (refine Qy rfl rfl rfl ?_; refine Qy rfl rfl rfl ?_; refine Qy rfl rfl rfl ?_; refine QV rfl rfl rfl rfl ?_; refine Qj (hK _ _ (Qz (Qo rfl (Qw ?_)))); clear hK K; refine Qq (fun K hK => ?_))
    refine Qr rfl (by with_reducible exact bFrac) rfl .nil rfl ?_
    refine Qr rfl (by with_reducible exact bFrac) rfl .nil rfl ?_
    refine Q9 3 rfl rfl rfl rfl rfl (by with_reducible exact szFrac) rfl rfl ?_
    refine Q9 3 rfl rfl rfl rfl rfl (by with_reducible exact szFrac) rfl rfl ?_
    (refine Qv rfl rfl rfl ?_; refine Qj (hK _ _ (Qz (Q0 (QW ?_)))); clear hK K)
    refine QU [_, _, _] rfl (X0 (w_agg (ds := [boolC false, intsC [], intsC []]) (by exact ⟨w_same, Z1, Z1, trivial⟩)) (Qi (n := 3) rfl rfl (by with_reducible exact Xo) rfl (X0 (w_agg (ds := [boolC false, intsC [], intsC []]) (by exact ⟨w_same, Z1, Z1, trivial⟩)) (Qi (n := 3) rfl rfl (by with_reducible exact Xo) rfl (Qu rfl QQ))))) (by rw [e]; show CT.fr (tupT [.fr (aggT [boolC false, intsC (limbs 0), intsC (limbs 0)]), .fr (aggT [boolC false, intsC (limbs 0), intsC (limbs 0)]), intC 1]) = _; rw [limbs_zero]; rfl) rfl
  (refine QZ rfl rfl rfl (by with_reducible first | exact fTk0 | exact fTk1 | exact fTk2 | exact fWr0 | exact fWr1 | exact XW | exact XK | exact Xe | exact fStm1 | exact fCn0 | exact fCn1 | exact fCn2 | exact fCn3 | exact fCs0 | exact fCs1) rfl ?_; refine QJ rfl rfl rfl rfl rfl (by with_reducible first | exact lInt | exact Qd | exact Q3 | exact lRess) rfl ?_; refine Qk ilss rfl rfl rfl rfl ?_; refine QK rfl rfl rfl rfl ?_; refine Qj (hK _ _ (Qz ?_)); clear hK K)
  refine Q2 rfl (fun g4 => ?_) (fun g4 => ?_)
  · rw [if_pos (.inr (.inr (.inr g4)))] at e
    (refine Qw (Qq fun K hK => ?_))
    refine Qr rfl (by with_reducible exact bFrac) rfl .nil rfl ?_
    refine Qr rfl (by with_reducible exact bFrac) rfl .nil rfl ?_
    refine Q9 3 rfl rfl rfl rfl rfl (by with_reducible exact szFrac) rfl rfl ?_
    refine Q9 3 rfl rfl rfl rfl rfl (by with_reducible exact szFrac) rfl rfl ?_
    (refine Qv rfl rfl rfl ?_; refine Qj (hK _ _ (Qz (Q0 (QW ?_)))); clear hK K)
    refine QU [_, _, _] rfl (X0 (w_agg (ds := [boolC false, intsC [], intsC []]) (by exact ⟨w_same, Z1, Z1, trivial⟩)) (Qi (n := 3) rfl rfl (by with_reducible exact Xo) rfl (X0 (w_agg (ds := [boolC false, intsC [], intsC []]) (by exact ⟨w_same, Z1, Z1, trivial⟩)) (Qi (n := 3) rfl rfl (by with_reducible exact Xo) rfl (Qu rfl QQ))))) (by rw [e]; show CT.fr (tupT [.fr (aggT [boolC false, intsC (limbs 0), intsC (limbs 0)]), .fr (aggT [boolC false, intsC (limbs 0), intsC (limbs 0)]), intC 1]) = _; rw [limbs_zero]; rfl) rfl
  rw [if_neg (fun h => h.elim g1 (fun h => h.elim g2 (fun h => h.elim g3 g4)))] at e
  have hF1 := FFrom_ok c.lo c.se (by omega) (by omega) (by omega) (by omega) (by omega)
  have hF2 := FFrom_ok c.hi c.se (by omega) (by omega) (by omega) (by omega) (by omega)
  (refine Q1 (Qz (Qw (Qq fun K hK => ?_))); refine QZ rfl rfl rfl (by with_reducible first | exact fTk0 | exact fTk1 | exact fTk2 | exact fWr0 | exact fWr1 | exact XW | exact XK | exact Xe | exact fStm1 | exact fCn0 | exact fCn1 | exact fCn2 | exact fCn3 | exact fCs0 | exact fCs1) rfl ?_; refine QJ rfl rfl rfl rfl rfl (by with_reducible first | exact lInt | exact Qd | exact Q3 | exact lRess) rfl ?_; refine QZ rfl rfl rfl (by with_reducible first | exact fTk0 | exact fTk1 | exact fTk2 | exact fWr0 | exact fWr1 | exact XW | exact XK | exact Xe | exact fStm1 | exact fCn0 | exact fCn1 | exact fCn2 | exact fCn3 | exact fCs0 | exact fCs1) rfl ?_; refine QJ rfl rfl rfl rfl rfl (by with_reducible first | exact lInt | exact Qd | exact Q3 | exact lRess) rfl ?_)
  refine QY goFFrom hF1 rfl rfl rfl rfl ?_
  (refine Qx rfl rfl rfl ?_; refine Q5 rfl rfl rfl rfl ?_; refine Q5 rfl rfl rfl rfl ?_)
  refine Q9 3 rfl rfl rfl rfl rfl (by with_reducible exact szFrac) rfl rfl ?_
  (refine Qj (hK _ _ (Qz (Qw ?_))); clear hK K; refine Qq (fun K hK => ?_); refine QZ rfl rfl rfl (by with_reducible first | exact fTk0 | exact fTk1 | exact fTk2 | exact fWr0 | exact fWr1 | exact XW | exact XK | exact Xe | exact fStm1 | exact fCn0 | exact fCn1 | exact fCn2 | exact fCn3 | exact fCs0 | exact fCs1) rfl ?_; refine QJ rfl rfl rfl rfl rfl (by with_reducible first | exact lInt | exact Qd | exact Q3 | exact lRess) rfl ?_; refine QZ rfl rfl rfl (by with_reducible first | exact fTk0 | exact fTk1 | exact fTk2 | exact fWr0 | exact fWr1 | exact XW | exact XK | exact Xe | exact fStm1 | exact fCn0 | exact fCn1 | exact fCn2 | exact fCn3 | exact fCs0 | exact fCs1) rfl ?_; refine QJ rfl rfl rfl rfl rfl (by with_reducible first | exact lInt | exact Qd | exact Q3 | exact lRess) rfl ?_)
  refine QY goFFrom hF2 rfl rfl rfl rfl ?_
  (refine Qx rfl rfl rfl ?_; refine Q5 rfl rfl rfl rfl ?_; refine Q5 rfl rfl rfl rfl ?_)
  refine Q9 3 rfl rfl rfl rfl rfl (by with_reducible exact szFrac) rfl rfl ?_
  (refine Qj (hK _ _ (Qz (Qw ?_))); clear hK K)
  refine St.drawQ (by with_reducible exact mixed) [2, 3] (.f 0 (.m 1 (.a 2 (.a 3 (.p 4 .done) .non) .non) (.a 2 (.f 1 (.a 3 (.p 4 .done) .non)) .non))) (by kernel_rfl) (fun K hK => ?_)
  refine Xn ?_
  refine Q6 (n := 3) rfl rfl rfl rfl rfl (by with_reducible exact Xo) rfl ?_
  refine Qj ?_
  refine XU ?_ ?_
  · refine Q6 (n := 3) rfl rfl rfl rfl rfl (by with_reducible exact Xo) rfl ?_
    refine Qj ?_
    refine Xy ?_ Qh
    refine Q9 3 rfl rfl rfl rfl rfl (by with_reducible exact szFrac) rfl rfl ?_
    refine Qj ?_
    refine Xy ?_ Qh
    refine Q9 3 rfl rfl rfl rfl rfl (by with_reducible exact szFrac) rfl rfl ?_
    refine Qj ?_
    refine XV ?_
    refine Qv rfl rfl rfl ?_
    refine Qj ?_
    refine XX (hK _ _ ?_)
    (refine Qz (Q0 ?_))
    refine QU [_, _, _] rfl (Qi (n := 3) rfl rfl (by with_reducible exact Xo) rfl (Qi (n := 3) rfl rfl (by with_reducible exact Xo) rfl (Qu rfl QQ))) (by rw [e]; rfl) rfl
  refine Xy ?_ Qh
  refine Q9 3 rfl rfl rfl rfl rfl (by with_reducible exact szFrac) rfl rfl ?_
  refine Qj ?_
  refine Xn ?_
  refine Q6 (n := 3) rfl rfl rfl rfl rfl (by with_reducible exact Xo) rfl ?_
  refine Qj ?_
  refine Xy ?_ Qh
  refine Q9 3 rfl rfl rfl rfl rfl (by with_reducible exact szFrac) rfl rfl ?_
  refine Qj ?_
  refine XV ?_
  refine Qv rfl rfl rfl ?_
  refine Qj ?_
  refine XX (hK _ _ ?_)
  (refine Qz (Q0 ?_))
  refine QU [_, _, _] rfl (Qi (n := 3) rfl rfl (by with_reducible exact Xo) rfl (Qi (n := 3) rfl rfl (by with_reducible exact Xo) rfl (Qu rfl QQ))) (by rw [e]; rfl) rfl
end Go.Proofs.YtlkdkbdgnjcopaaGreat
namespace Go.Proofs.YtlkdkbdgnjcopaaGreat
open Go.Own Go.Limbs
attribute [local irreducible] St Ops Go.Own.Fin Ok OkB OkN wpA
def eqFr (f g : Fr) : Bool := decide (f.neg = g.neg ∧ limbs f.num = limbs g.num ∧ limbs f.den = limbs g.den)
theorem eqFr_self (f : Fr) : eqFr f f = true := decide_eq_true ⟨rfl, rfl, rfl⟩
theorem ext_getD {xs ys : List Int} (hl : xs.length = ys.length) (h : ∀ j, j < xs.length → xs.getD j 0 = ys.getD j 0) : xs = ys := by
  refine List.ext_getElem hl fun j h1 h2 => ?_
  have := h j h1
  simpa [List.getD_eq_getElem?_getD, List.getElem?_eq_getElem h1, List.getElem?_eq_getElem h2] using this
theorem goEqual : InGo Tryz.prog 34 := InGo.of Tryz.func34 rfl (by decide)
set_option maxHeartbeats 4000000 in
theorem Equal_ok (f g : Fr) (hn : (limbs f.num).length ≤ 1000) (hd : (limbs f.den).length ≤ 1000) (hn2 : (limbs g.num).length ≤ 1000) (hd2 : (limbs g.den).length ≤ 1000) : Ok Tryz.prog 34 [fracC f, fracC g] (boolC (eqFr f g)) := by
  have no1 : f.neg ≠ g.neg → eqFr f g = false := fun h => decide_eq_false fun e => h e.1
  have no2 : limbs f.num ≠ limbs g.num → eqFr f g = false := fun h => decide_eq_false fun e => h e.2.1
  have no3 : limbs f.den ≠ limbs g.den → eqFr f g = false := fun h => decide_eq_false fun e => h e.2.2
  have yes : f.neg = g.neg → limbs f.num = limbs g.num → limbs f.den = limbs g.den → eqFr f g = true := fun h1 h2 h3 => decide_eq_true ⟨h1, h2, h3⟩
  generalize eqFr f g = e at no1 no2 no3 yes ⊢
  refine Ok.enter Tryz.func34 rfl _ Tryz.ntmps34 rfl ?_
  intro S w
  (refine Qw (Qq fun K hK => ?_); refine Xv 0 rfl rfl rfl rfl rfl rfl rfl ?_; refine Xv 1 rfl rfl rfl rfl rfl rfl rfl ?_; refine Qv rfl rfl rfl ?_; refine Qj (hK _ _ (Qz (Qw (Qw ?_)))); clear hK K; refine Qq (fun K hK => ?_); refine QZ rfl rfl rfl (by with_reducible first | exact fF0 | exact fF1 | exact fF2 | exact fR0 | exact fR1) rfl ?_; refine QJ rfl rfl rfl rfl rfl (by with_reducible first | exact lInt | exact lNat | exact lBool | exact lInts) rfl ?_; refine QZ rfl rfl rfl (by with_reducible first | exact fF0 | exact fF1 | exact fF2 | exact fR0 | exact fR1) rfl ?_; refine QJ rfl rfl rfl rfl rfl (by with_reducible first | exact lInt | exact lNat | exact lBool | exact lInts) rfl ?_)
  refine Ops.bne rfl rfl rfl (by with_reducible exact uBool) rfl ?_
  (refine Qx rfl rfl rfl ?_)
  refine Q4 12 rfl (fun h1 => ?_) (fun h1 => ?_)
  · (refine Qy rfl rfl rfl ?_; refine Qy rfl rfl rfl ?_; refine Qy rfl rfl rfl ?_; refine Qy rfl rfl rfl ?_; refine Qy rfl rfl rfl ?_; refine Qy rfl rfl rfl ?_; refine Qy rfl rfl rfl ?_; refine QV rfl rfl rfl rfl ?_; refine Qx rfl rfl rfl ?_; refine Qy rfl rfl rfl ?_; refine Qy rfl rfl rfl ?_; refine Qy rfl rfl rfl ?_; refine Qy rfl rfl rfl ?_; refine Qy rfl rfl rfl ?_; refine Qy rfl rfl rfl ?_; refine Qy rfl rfl rfl ?_; refine QV rfl rfl rfl rfl ?_; refine Qj (hK _ _ (Qz (Qo rfl (Qw ?_)))); clear hK K; refine Qq (fun K hK => ?_); refine Qv rfl rfl rfl ?_; refine Qj (hK _ _ (Qz (Q0 (QW ?_)))); clear hK K)
    refine QU [_] rfl (Qu rfl QQ) (by rw [no1 h1]; rfl) rfl
  have h1 : f.neg = g.neg := Decidable.byContradiction h1
  (refine QZ rfl rfl rfl (by with_reducible first | exact fF0 | exact fF1 | exact fF2 | exact fR0 | exact fR1) rfl ?_; refine QJ rfl rfl rfl rfl rfl (by with_reducible first | exact lInt | exact lNat | exact lBool | exact lInts) rfl ?_; refine Qg rfl rfl (by with_reducible first | exact sNat.und | exact sInts.und) (List.length_map ..) rfl ?_; refine QZ rfl rfl rfl (by with_reducible first | exact fF0 | exact fF1 | exact fF2 | exact fR0 | exact fR1) rfl ?_; refine QJ rfl rfl rfl rfl rfl (by with_reducible first | exact lInt | exact lNat | exact lBool | exact lInts) rfl ?_; refine Qg rfl rfl (by with_reducible first | exact sNat.und | exact sInts.und) (List.length_map ..) rfl ?_; refine Qk ineq rfl rfl rfl rfl ?_; refine QK rfl rfl rfl rfl ?_; refine Qx rfl rfl rfl ?_)
  refine Q4 21 rfl (fun h2 => ?_) (fun h2 => ?_)
  · (refine Qy rfl rfl rfl ?_; refine Qy rfl rfl rfl ?_; refine Qy rfl rfl rfl ?_; refine Qy rfl rfl rfl ?_; refine Qy rfl rfl rfl ?_; refine Qy rfl rfl rfl ?_; refine Qy rfl rfl rfl ?_; refine QV rfl rfl rfl rfl ?_; refine Qj (hK _ _ (Qz (Qo rfl (Qw ?_)))); clear hK K; refine Qq (fun K hK => ?_); refine Qv rfl rfl rfl ?_; refine Qj (hK _ _ (Qz (Q0 (QW ?_)))); clear hK K)
    refine QU [_] rfl (Qu rfl QQ) (by rw [no2 (fun h => h2 (by rw [h]))]; rfl) rfl
  have h2 : (limbs f.num).length = (limbs g.num).length := by
    have := Decidable.byContradiction h2
    omega
  (refine QZ rfl rfl rfl (by with_reducible first | exact fF0 | exact fF1 | exact fF2 | exact fR0 | exact fR1) rfl ?_; refine QJ rfl rfl rfl rfl rfl (by with_reducible first | exact lInt | exact lNat | exact lBool | exact lInts) rfl ?_; refine Qg rfl rfl (by with_reducible first | exact sNat.und | exact sInts.und) (List.length_map ..) rfl ?_; refine QZ rfl rfl rfl (by with_reducible first | exact fF0 | exact fF1 | exact fF2 | exact fR0 | exact fR1) rfl ?_; refine QJ rfl rfl rfl rfl rfl (by with_reducible first | exact lInt | exact lNat | exact lBool | exact lInts) rfl ?_; refine Qg rfl rfl (by with_reducible first | exact sNat.und | exact sInts.und) (List.length_map ..) rfl ?_; refine Qk ineq rfl rfl rfl rfl ?_; refine QK rfl rfl rfl rfl ?_; refine Qj (hK _ _ (Qz ?_)); clear hK K)
  refine Q2 rfl (fun h3 => ?_) (fun h3 => ?_)
  · (refine Qw (Qq fun K hK => ?_); refine Qv rfl rfl rfl ?_; refine Qj (hK _ _ (Qz (Q0 (QW ?_)))); clear hK K)
    refine QU [_] rfl (Qu rfl QQ) (by rw [no3 (fun h => h3 (by rw [h]))]; rfl) rfl
  have h3 : (limbs f.den).length = (limbs g.den).length := by
    have := Decidable.byContradiction h3
    omega
  (refine Q1 (Qz (Qw (Qw (Qq fun K hK => ?_)))); refine Qv rfl rfl rfl ?_; refine Qj (hK _ _ (Qz (Q8 ?_))); clear hK K)
  refine Xw (α := Nat) (fun k => k ≤ (limbs f.num).length ∧ ∀ j, j < k → (limbs f.num).getD j 0 = (limbs g.num).getD j 0)
    (fun k => [(2, .own 0), (3, .own 1), (5, .ct (intC k))]) (fun _ => [(1, .box 53 (frCs g)), (0, .box 53 (frCs f))]) (fun k => (limbs f.num).length - k) 0 ⟨Nat.zero_le _, fun j h => absurd h (Nat.not_lt_zero j)⟩ (by exact QX rfl ⟨rfl, rfl, rfl, trivial⟩) ?_
  intro k ⟨hk, hv⟩
  dsimp only at hk ⊢
  have e2 : (k : Int).toNat = k := Int.toNat_natCast k
  (refine Qw (Qw (Qq fun K hK => ?_)); refine Qx rfl rfl rfl ?_; refine QZ rfl rfl rfl (by with_reducible first | exact fF0 | exact fF1 | exact fF2 | exact fR0 | exact fR1) rfl ?_; refine QJ rfl rfl rfl rfl rfl (by with_reducible first | exact lInt | exact lNat | exact lBool | exact lInts) rfl ?_; refine Qg rfl rfl (by with_reducible first | exact sNat.und | exact sInts.und) (List.length_map ..) rfl ?_; refine Qk ilss rfl rfl rfl rfl ?_; refine Qj (hK _ _ (Qz ?_)); clear hK K)
  refine Q2 rfl (fun h => ?_) (fun h => ?_)
  · (refine Q1 (Qz (Qw (Q8 (Qw ?_)))))
    refine XJ (by with_reducible exact mixed) 11 (.p 0 (.p 2 (.p 5 (.p 7 (.f 1 (.p 3 (.f 4 (.f 6 (.p 8 (.f 9 (.p 10 .done))))))))))) (by kernel_rfl) (fun K hK => ?_)
    (refine QZ rfl rfl rfl (by with_reducible first | exact fF0 | exact fF1 | exact fF2 | exact fR0 | exact fR1) rfl ?_; refine Qx rfl rfl rfl ?_; refine QZ rfl rfl rfl (by with_reducible first | exact fF0 | exact fF1 | exact fF2 | exact fR0 | exact fR1) rfl ?_; refine Qx rfl rfl rfl ?_; refine QJ rfl rfl rfl rfl rfl (by with_reducible first | exact lInt | exact lNat | exact lBool | exact lInts) rfl ?_; refine Qn rfl rfl rfl (by with_reducible first | exact sNat | exact sInts) (by omega) (X5 (by omega) (by omega)) rfl ?_; refine XZ rfl rfl rfl (by with_reducible first | exact lInt | exact lNat | exact lBool | exact lInts) rfl ?_; refine QJ rfl rfl rfl rfl rfl (by with_reducible first | exact lInt | exact lNat | exact lBool | exact lInts) rfl ?_; refine Qn rfl rfl rfl (by with_reducible first | exact sNat | exact sInts) (by omega) (X5 (by omega) (by omega)) rfl ?_; refine XZ rfl rfl rfl (by with_reducible first | exact lInt | exact lNat | exact lBool | exact lInts) rfl ?_; refine Qk ineq rfl rfl rfl rfl ?_; refine Qj (hK _ _ (Qz ?_)); clear hK K)
    refine Q2 rfl (fun h4 => ?_) (fun h4 => ?_)
    · rw [e2] at h4
      (refine Qw (Qq fun K hK => ?_); refine Qv rfl rfl rfl ?_; refine Qj (hK _ _ (Qz (Q0 (Qa (QW (QW (Qa (QW ?_)))))))); clear hK K)
      refine QU [_] rfl (Qu rfl QQ) (by rw [no2 (fun h => h4 (by rw [h]))]; rfl) rfl
    · rw [e2] at h4
      have h4 := Decidable.byContradiction h4
      (refine Q1 (Qz (Qq fun K hK => ?_)); refine Qx rfl rfl rfl ?_; refine Qk (iadd (by omega) (by omega)) rfl rfl rfl rfl ?_; refine Qv rfl rfl rfl ?_; refine Qj (hK _ _ (Q7 ?_)); clear hK K)
      refine Qc (k + 1) (by omega) ⟨by omega, fun j hj => ?_⟩ (by exact QX rfl ⟨rfl, rfl, by simp only [Int.natCast_add]; rfl, trivial⟩)
      rcases Nat.lt_or_ge j k with h5 | h5
      · exact hv j h5
      · have : j = k := by omega
        rw [this]; exact h4
  · have hnum : limbs f.num = limbs g.num := ext_getD h2 fun j hj => hv j (by omega)
    clear hv
    (refine Xq (Qz (Qw (Qw (Qq fun K hK => ?_)))); refine Qv rfl rfl rfl ?_; refine Qj (hK _ _ (Qz (Q8 ?_))); clear hK K)
    refine Xw (α := Nat) (fun k => k ≤ (limbs f.den).length ∧ ∀ j, j < k → (limbs f.den).getD j 0 = (limbs g.den).getD j 0)
      (fun k => [(2, .own 0), (3, .own 1), (6, .ct (intC k))]) (fun _ => [(1, .box 53 (frCs g)), (0, .box 53 (frCs f))]) (fun k => (limbs f.den).length - k) 0 ⟨Nat.zero_le _, fun j h => absurd h (Nat.not_lt_zero j)⟩ (by exact QX rfl ⟨rfl, rfl, rfl, trivial⟩) ?_
    clear hk e2 h
    clear k
    intro k ⟨hk, hv⟩
    dsimp only at hk ⊢
    have e2 : (k : Int).toNat = k := Int.toNat_natCast k
    (refine Qw (Qw (Qq fun K hK => ?_)); refine Qx rfl rfl rfl ?_; refine QZ rfl rfl rfl (by with_reducible first | exact fF0 | exact fF1 | exact fF2 | exact fR0 | exact fR1) rfl ?_; refine QJ rfl rfl rfl rfl rfl (by with_reducible first | exact lInt | exact lNat | exact lBool | exact lInts) rfl ?_; refine Qg rfl rfl (by with_reducible first | exact sNat.und | exact sInts.und) (List.length_map ..) rfl ?_; refine Qk ilss rfl rfl rfl rfl ?_; refine Qj (hK _ _ (Qz ?_)); clear hK K)
    refine Q2 rfl (fun h => ?_) (fun h => ?_)
    · (refine Q1 (Qz (Qw (Q8 (Qw ?_)))))
      refine XJ (by with_reducible exact mixed) 11 (.p 0 (.p 2 (.p 5 (.p 7 (.f 1 (.p 3 (.f 4 (.f 6 (.p 8 (.f 9 (.p 10 .done))))))))))) (by kernel_rfl) (fun K hK => ?_)
      (refine QZ rfl rfl rfl (by with_reducible first | exact fF0 | exact fF1 | exact fF2 | exact fR0 | exact fR1) rfl ?_; refine Qx rfl rfl rfl ?_; refine QZ rfl rfl rfl (by with_reducible first | exact fF0 | exact fF1 | exact fF2 | exact fR0 | exact fR1) rfl ?_; refine Qx rfl rfl rfl ?_; refine QJ rfl rfl rfl rfl rfl (by with_reducible first | exact lInt | exact lNat | exact lBool | exact lInts) rfl ?_; refine Qn rfl rfl rfl (by with_reducible first | exact sNat | exact sInts) (by omega) (X5 (by omega) (by omega)) rfl ?_; refine XZ rfl rfl rfl (by with_reducible first | exact lInt | exact lNat | exact lBool | exact lInts) rfl ?_; refine QJ rfl rfl rfl rfl rfl (by with_reducible first | exact lInt | exact lNat | exact lBool | exact lInts) rfl ?_; refine Qn rfl rfl rfl (by with_reducible first | exact sNat | exact sInts) (by omega) (X5 (by omega) (by omega)) rfl ?_; refine XZ rfl rfl rfl (by with_reducible first | exact lInt | exact lNat | exact lBool | exact lInts) rfl ?_; refine Qk ineq rfl rfl rfl rfl ?_; refine Qj (hK _ _ (Qz ?_)); clear hK K)
      refine Q2 rfl (fun h4 => ?_) (fun h4 => ?_)
      · rw [e2] at h4
        (refine Qw (Qq fun K hK => ?_); refine Qv rfl rfl rfl ?_; refine Qj (hK _ _ (Qz (Q0 (Qa (QW (QW (Qa (QW ?_)))))))); clear hK K)
        refine QU [_] rfl (Qu rfl QQ) (by rw [no3 (fun h => h4 (by rw [h]))]; rfl) rfl
      · rw [e2] at h4
        have h4 := Decidable.byContradiction h4
        (refine Q1 (Qz (Qq fun K hK => ?_)); refine Qx rfl rfl rfl ?_; refine Qk (iadd (by omega) (by omega)) rfl rfl rfl rfl ?_; refine Qv rfl rfl rfl ?_; refine Qj (hK _ _ (Q7 ?_)); clear hK K)
        refine Qc (k + 1) (by omega) ⟨by omega, fun j hj => ?_⟩ (by exact QX rfl ⟨rfl, rfl, by simp only [Int.natCast_add]; rfl, trivial⟩)
        rcases Nat.lt_or_ge j k with h5 | h5
        · exact hv j h5
        · have : j = k := by omega
          rw [this]; exact h4
    · have hden : limbs f.den = limbs g.den := ext_getD h3 fun j hj => hv j (by omega)
      clear hv
      (refine Xq (Qz (Qw (Qq fun K hK => ?_))); refine Qv rfl rfl rfl ?_; refine Qj (hK _ _ (Qz (Q0 ?_))); clear hK K)
      refine QU [_] rfl (Qu rfl QQ) (by rw [yes h1 hnum hden]; rfl) rfl
end Go.Proofs.YtlkdkbdgnjcopaaGreat
namespace Go.Proofs.YtlkdkbdgnjcopaaGreat
open Go.Own Go.Limbs
attribute [local irreducible] St Ops Go.Own.Fin Ok OkB OkN OkT OkL OkF OkM
def dA : List (Int × Int) := [(2, 1), (2, 1), (2, 1), (2, 0), (2, 0), (2, 0), (2, 0), (2, 0), (2, 0), (2, 0), (1, 0)]
theorem dA_low : ∀ i, i < 3 → dA.getD i (0, 0) = (2, 1) := by decide
theorem dA_mid : ∀ i, i < 10 → 2 < i → dA.getD i (0, 0) = (2, 0) := by decide
theorem dA_cnt : cntF (xF 5 0 dA) (wk 2) 1 = (⟨wk 2, 10, 2, 3⟩, 0) := by
  rw [xF_cnt (n := 2) (by decide) (by decide) (by decide) (by decide) (fun t h1 h2 => ?_) (by decide) (by decide) (by decide) (by decide)]
  · decide
  · have : t = 1 ∨ t = 2 := by omega
    rcases this with h | h <;> subst h <;> decide
theorem q2n : (ofQ (Rat.divInt 2 10)).num = 1 := by kernel_rfl
theorem q2d : (ofQ (Rat.divInt 2 10)).den = 5 := by kernel_rfl
theorem q3n : (ofQ (Rat.divInt 3 10)).num = 3 := by kernel_rfl
theorem q3d : (ofQ (Rat.divInt 3 10)).den = 10 := by kernel_rfl
theorem eq_low : eqFr (ofQ (Rat.divInt 2 10)) (ofQ (Rat.divInt 3 10)) = false := decide_eq_false fun h => by
  have h := h.2.1
  rw [q2n, q3n, ZU (by decide) (by decide), ZU (by decide) (by decide)] at h
  exact absurd h (by decide)
theorem goawake : InGo Tryz.prog 9 := InGo.of Tryz.func9 rfl (by decide)
set_option maxHeartbeats 8000000 in
theorem awake_ok : Ok Tryz.prog 9 [] (boolC true) := by
  have hC := Count_ok (xF 5 0 dA) (by rw [xF_len]; decide) (wk 2) 1
  rw [dA_cnt] at hC
  have hR := Rate_ok ⟨wk 2, 10, 2, 3⟩ (by decide) (by decide) (by decide)
  rw [show rateC ⟨wk 2, 10, 2, 3⟩ = .fr (tupT [ratC (Rat.divInt 2 10), ratC (Rat.divInt 3 10), intC 0]) from if_neg (by decide)] at hR
  have hF := rFrom_ok 3 10 (by decide) (by decide) (by decide) (by decide) (by decide)
  have b1 : (limbs (ofQ (Rat.divInt 2 10)).num).length ≤ 1000 ∧ (limbs (ofQ (Rat.divInt 2 10)).den).length ≤ 1000 ∧ (limbs (ofQ (Rat.divInt 3 10)).num).length ≤ 1000 ∧ (limbs (ofQ (Rat.divInt 3 10)).den).length ≤ 1000 := by
    rw [q2n, q2d, q3n, q3d, ZU (by decide) (by decide), ZU (by decide) (by decide), ZU (by decide) (by decide), ZU (by decide) (by decide)]; decide
  have hE1 := Equal_ok (ofQ (Rat.divInt 3 10)) (ofQ (Rat.divInt 3 10)) b1.2.2.1 b1.2.2.2 b1.2.2.1 b1.2.2.2
  rw [eqFr_self] at hE1
  have hE2 := Equal_ok (ofQ (Rat.divInt 2 10)) (ofQ (Rat.divInt 3 10)) b1.1 b1.2.1 b1.2.2.1 b1.2.2.2
  rw [eq_low] at hE2
  refine Ok.enter Tryz.func9 rfl _ Tryz.ntmps9 rfl ?_
  intro S w0
  (refine Qw (Qq fun K hK => ?_); refine Qv rfl rfl rfl ?_; refine Qj (hK _ _ (Qz (Qw ?_))); clear hK K; refine Qq (fun K hK => ?_); refine Qv rfl rfl rfl ?_; refine Qj (hK _ _ (Qz (Qw (Qw ?_)))); clear hK K; refine Qq (fun K hK => ?_); refine Qv rfl rfl rfl ?_; refine Qj (hK _ _ (Qz (Q8 ?_))); clear hK K)
  refine Zq 1 0 35 17 rfl rfl rfl ?_
  refine Xw (α := Nat) (fun i => i ≤ 11) (fun i => [(1, .own 0), (2, .ct (intC i))]) (fun i => [(0, .row 35 17 (rss (xF 5 0 (dA.take i))))]) (fun i => 11 - i) 0 (Nat.zero_le _) (by exact QX rfl ⟨rfl, rfl, trivial⟩) ?_
  intro i hi
  try dsimp only at hi ⊢
  (refine Qw (Qw (Qq fun K hK => ?_)); refine Qx rfl rfl rfl ?_; refine Qk ilss rfl rfl rfl rfl ?_; refine Qj (hK _ _ (Qz ?_)); clear hK K)
  refine Q2 rfl (fun h => ?_) (fun h => ?_)
  · have hx := take_snoc (z := ((0, 0) : Int × Int)) (l := dA) (i := i) (by show i < 11; omega)
    have hlen2 : (dA.take i).length = i := by rw [List.length_take]; show min i 11 = i; omega
    have hlen : (xF 5 0 (dA.take i)).length = i := by rw [xF_len, hlen2]
    (refine Q1 (Qz (Qw (Q8 (Qw (Qq fun K hK => ?_))))); refine Qx rfl rfl rfl ?_; refine Qx rfl rfl rfl ?_; refine Qk (imul (by omega) (by omega)) rfl rfl rfl rfl ?_; refine Qx rfl rfl rfl ?_; refine Qk (imul (by omega) (by omega)) rfl rfl rfl rfl ?_; refine Qk (iadd (by omega) (by omega)) rfl rfl rfl rfl ?_)
    refine Qr rfl (by with_reducible exact bRes) rfl (.one rfl rfl rfl rfl (.one rfl rfl rfl rfl (.one rfl rfl rfl rfl (.one rfl rfl rfl rfl (.one rfl rfl rfl rfl (.one rfl rfl rfl rfl .nil)))))) rfl ?_
    refine Qf 1 rfl rfl (by with_reducible exact zvRes) rfl rfl rfl ?_
    refine Q9 17 rfl rfl rfl rfl rfl (by with_reducible exact szRes) rfl rfl ?_
    (refine Qj (hK _ _ (Qz (Qw (Qw ?_)))); clear hK K; refine Qq (fun K hK => ?_); refine Qx rfl rfl rfl ?_; refine Qk ieql rfl rfl rfl rfl ?_; refine Qj (hK _ _ (Qz ?_)); clear hK K)
    refine Q2 rfl (fun g => ?_) (fun g => ?_)
    · have hi10 : i = 10 := by omega
      subst hi10
      have HD : dA.getD 10 (0, 0) = (1, 0) := rfl
      (refine Qq (fun K hK => ?_); refine QZ rfl rfl rfl (by with_reducible first | exact fS0 | exact fS1 | exact fS2 | exact fS3 | exact fS4 | exact fS5 | exact fS6 | exact fS7 | exact fS8 | exact fS9 | exact fS10 | exact fS11 | exact fN0 | exact fN1 | exact fN2 | exact fN3 | exact fN4 | exact fN5) rfl ?_; refine X6 rfl rfl rfl rfl rfl (by with_reducible first | exact zInt | exact zAddr | exact zClaims) (Nat.le_of_ble_eq_true rfl) ?_; refine Qj (hK _ _ (Qz (Qw (Qw ?_)))); clear hK K; refine Qq (fun K hK => ?_); refine Qx rfl rfl rfl ?_; refine Qk igtr rfl rfl rfl rfl ?_; refine Qj (hK _ _ (Qz (Qo rfl ?_))); clear hK K; refine Qq (fun K hK => ?_); refine QZ rfl rfl rfl (by with_reducible first | exact fS0 | exact fS1 | exact fS2 | exact fS3 | exact fS4 | exact fS5 | exact fS6 | exact fS7 | exact fS8 | exact fS9 | exact fS10 | exact fS11 | exact fN0 | exact fN1 | exact fN2 | exact fN3 | exact fN4 | exact fN5) rfl ?_; refine QJ rfl rfl rfl rfl rfl (by with_reducible first | exact lInt | exact Qd | exact Q3 | exact lRess) rfl ?_)
      refine Ze (q := 1) rfl rfl (by with_reducible exact uInt) (by with_reducible exact uAddr) (by decide) rfl ?_
      refine Qr rfl (by with_reducible exact bAns) rfl (.one rfl rfl rfl rfl (.one rfl rfl rfl rfl .nil)) rfl ?_
      (refine QZ rfl rfl rfl (by with_reducible first | exact fS0 | exact fS1 | exact fS2 | exact fS3 | exact fS4 | exact fS5 | exact fS6 | exact fS7 | exact fS8 | exact fS9 | exact fS10 | exact fS11 | exact fN0 | exact fN1 | exact fN2 | exact fN3 | exact fN4 | exact fN5) rfl ?_)
      refine X6 rfl rfl rfl rfl rfl (by with_reducible exact zBool1) (Nat.le_of_ble_eq_true rfl) ?_
      (refine QZ rfl rfl rfl (by with_reducible first | exact fS0 | exact fS1 | exact fS2 | exact fS3 | exact fS4 | exact fS5 | exact fS6 | exact fS7 | exact fS8 | exact fS9 | exact fS10 | exact fS11 | exact fN0 | exact fN1 | exact fN2 | exact fN3 | exact fN4 | exact fN5) rfl ?_)
      refine Ops.stNA rfl rfl rfl rfl rfl (by exact szAns) (Nat.le_of_ble_eq_true rfl) ?_
      (refine Qj (hK _ _ (Qz ?_)); clear hK K; refine Qq (fun K hK => ?_); refine Qx rfl rfl rfl ?_; refine Q6 (n := 17) rfl rfl rfl rfl rfl (by with_reducible exact lRes) rfl ?_)
      refine X9 (n := 17) rfl rfl (by with_reducible exact sRes) rfl rfl (by decide) rfl ?_
      refine Qs 10 (rss (xF 5 0 (dA.take (10 + 1)))) rfl rfl rfl rfl (by with_reducible exact sRes) (by rw [Xs, hlen]) rfl (by omega) (by omega) (by rw [hx, xF_snoc, Zl, hlen2, HD, Int.zero_add]; rfl) rfl ?_
      (refine Qv rfl rfl rfl ?_; refine Qj (hK _ _ (Qz ?_)); clear hK K; refine Qq (fun K hK => ?_); refine Qx rfl rfl rfl ?_; refine Qk (iadd (by omega) (by omega)) rfl rfl rfl rfl ?_; refine Qv rfl rfl rfl ?_; refine Qj (hK _ _ (Q7 ?_)); clear hK K)
      refine Qt 1 ?_
      refine Qc (10 + 1) (by omega) (by omega) (by exact QX rfl ⟨rfl, by simp only [Int.natCast_add]; rfl, trivial⟩)
    (refine Q1 (Qz (Qw (Qw (Qq fun K hK => ?_)))); refine Qx rfl rfl rfl ?_; refine Qk igtr rfl rfl rfl rfl ?_; refine Qj (hK _ _ (Qz ?_)); clear hK K)
    refine Q2 rfl (fun g2 => ?_) (fun g2 => ?_)
    · have HD := dA_mid i (by omega) (by omega)
      (refine Qq (fun K hK => ?_); refine QZ rfl rfl rfl (by with_reducible first | exact fS0 | exact fS1 | exact fS2 | exact fS3 | exact fS4 | exact fS5 | exact fS6 | exact fS7 | exact fS8 | exact fS9 | exact fS10 | exact fS11 | exact fN0 | exact fN1 | exact fN2 | exact fN3 | exact fN4 | exact fN5) rfl ?_; refine QJ rfl rfl rfl rfl rfl (by with_reducible first | exact lInt | exact Qd | exact Q3 | exact lRess) rfl ?_)
      refine Ze (q := 2) rfl rfl (by with_reducible exact uInt) (by with_reducible exact uAddr) (by decide) rfl ?_
      refine Qr rfl (by with_reducible exact bAns) rfl (.one rfl rfl rfl rfl (.one rfl rfl rfl rfl .nil)) rfl ?_
      (refine QZ rfl rfl rfl (by with_reducible first | exact fS0 | exact fS1 | exact fS2 | exact fS3 | exact fS4 | exact fS5 | exact fS6 | exact fS7 | exact fS8 | exact fS9 | exact fS10 | exact fS11 | exact fN0 | exact fN1 | exact fN2 | exact fN3 | exact fN4 | exact fN5) rfl ?_)
      refine X6 rfl rfl rfl rfl rfl (by with_reducible exact zBool1) (Nat.le_of_ble_eq_true rfl) ?_
      (refine QZ rfl rfl rfl (by with_reducible first | exact fS0 | exact fS1 | exact fS2 | exact fS3 | exact fS4 | exact fS5 | exact fS6 | exact fS7 | exact fS8 | exact fS9 | exact fS10 | exact fS11 | exact fN0 | exact fN1 | exact fN2 | exact fN3 | exact fN4 | exact fN5) rfl ?_)
      refine Ops.stNA rfl rfl rfl rfl rfl (by exact szAns) (Nat.le_of_ble_eq_true rfl) ?_
      (refine Qj (hK _ _ (Qz ?_)); clear hK K; refine Qq (fun K hK => ?_); refine Qx rfl rfl rfl ?_; refine Q6 (n := 17) rfl rfl rfl rfl rfl (by with_reducible exact lRes) rfl ?_)
      refine X9 (n := 17) rfl rfl (by with_reducible exact sRes) rfl rfl (by decide) rfl ?_
      refine Qs i (rss (xF 5 0 (dA.take (i + 1)))) rfl rfl rfl rfl (by with_reducible exact sRes) (by rw [Xs, hlen]) rfl (by omega) (by omega) (by rw [hx, xF_snoc, Zl, hlen2, HD, Int.zero_add]; rfl) rfl ?_
      (refine Qv rfl rfl rfl ?_; refine Qj (hK _ _ (Qz ?_)); clear hK K; refine Qq (fun K hK => ?_); refine Qx rfl rfl rfl ?_; refine Qk (iadd (by omega) (by omega)) rfl rfl rfl rfl ?_; refine Qv rfl rfl rfl ?_; refine Qj (hK _ _ (Q7 ?_)); clear hK K)
      refine Qt 1 ?_
      refine Qc (i + 1) (by omega) (by omega) (by exact QX rfl ⟨rfl, by simp only [Int.natCast_add]; rfl, trivial⟩)
    · have HD := dA_low i (by omega)
      (refine Q1 (Qz (Qq fun K hK => ?_)); refine Qx rfl rfl rfl ?_; refine Q6 (n := 17) rfl rfl rfl rfl rfl (by with_reducible exact lRes) rfl ?_)
      refine X9 (n := 17) rfl rfl (by with_reducible exact sRes) rfl rfl (by decide) rfl ?_
      refine Qs i (rss (xF 5 0 (dA.take (i + 1)))) rfl rfl rfl rfl (by with_reducible exact sRes) (by rw [Xs, hlen]) rfl (by omega) (by omega) (by rw [hx, xF_snoc, Zl, hlen2, HD, Int.zero_add]; rfl) rfl ?_
      (refine Qv rfl rfl rfl ?_; refine Qj (hK _ _ (Qz ?_)); clear hK K; refine Qq (fun K hK => ?_); refine Qx rfl rfl rfl ?_; refine Qk (iadd (by omega) (by omega)) rfl rfl rfl rfl ?_; refine Qv rfl rfl rfl ?_; refine Qj (hK _ _ (Q7 ?_)); clear hK K)
      refine Qt 1 ?_
      refine Qc (i + 1) (by omega) (by omega) (by exact QX rfl ⟨rfl, by simp only [Int.natCast_add]; rfl, trivial⟩)
  · have hi' : i = 11 := by omega
    subst hi'
    rw [show List.take 11 dA = dA from rfl]
    (refine Xq (Qz (Qw (Qq fun K hK => ?_))); refine Qx rfl rfl rfl ?_)
    refine Xp 0 _ rfl (ZX _ _) X3 ?_
    refine Qr rfl (by with_reducible exact bWire) rfl (.one rfl rfl rfl rfl (.one rfl rfl rfl rfl .nil)) rfl ?_
    refine QY goCount hC rfl rfl rfl rfl ?_
    (refine Qx rfl rfl rfl ?_; refine Q5 rfl rfl rfl rfl ?_; refine Q5 rfl rfl rfl rfl ?_; refine Qf 0 rfl rfl (by with_reducible first | exact zvTrav | exact zvCn) rfl rfl rfl ?_; refine Q9 5 rfl rfl rfl rfl rfl (by with_reducible exact szCn) rfl rfl ?_; refine Qv rfl rfl rfl ?_; refine Qj (hK _ _ (Qz (Qw ?_))); clear hK K; refine Qq (fun K hK => ?_); refine Q6 (n := 5) rfl rfl rfl rfl rfl (by with_reducible exact lCn) rfl ?_)
    refine QY goRate hR rfl rfl rfl rfl ?_
    (refine Qx rfl rfl rfl ?_; refine Q5 rfl rfl rfl rfl ?_; refine Q5 rfl rfl rfl rfl ?_; refine Q5 rfl rfl rfl rfl ?_)
    refine Qf 2 rfl rfl (by with_reducible exact zvFrac) rfl rfl rfl ?_
    refine Qf 3 rfl rfl (by with_reducible exact zvFrac) rfl rfl rfl ?_
    refine Q9 3 rfl rfl rfl rfl rfl (by with_reducible exact szFrac) rfl rfl ?_
    refine Q9 3 rfl rfl rfl rfl rfl (by with_reducible exact szFrac) rfl rfl ?_
    (refine Qv rfl rfl rfl ?_; refine Qj (hK _ _ (Qz (Qw ?_))); clear hK K; refine Qq (fun K hK => ?_))
    refine QY gorFrom hF rfl rfl rfl rfl ?_
    (refine Qx rfl rfl rfl ?_; refine Q5 rfl rfl rfl rfl ?_; refine Q5 rfl rfl rfl rfl ?_)
    refine Qf 4 rfl rfl (by with_reducible exact zvFrac) rfl rfl rfl ?_
    refine Q9 3 rfl rfl rfl rfl rfl (by with_reducible exact szFrac) rfl rfl ?_
    (refine Qv rfl rfl rfl ?_; refine Qj (hK _ _ (Qz (Qw ?_))); clear hK K; refine Qq (fun K hK => ?_); refine Qx rfl rfl rfl ?_; refine Qk ieql rfl rfl rfl rfl ?_; refine Qx rfl rfl rfl ?_; refine QZ rfl rfl rfl (by with_reducible first | exact fTk0 | exact fTk1 | exact fTk2 | exact fWr0 | exact fWr1 | exact XW | exact XK | exact Xe | exact fStm1 | exact fCn0 | exact fCn1 | exact fCn2 | exact fCn3 | exact fCs0 | exact fCs1) rfl ?_; refine QJ rfl rfl rfl rfl rfl (by with_reducible first | exact lInt | exact Qd | exact Q3 | exact lRess) rfl ?_; refine Qk ieql rfl rfl rfl rfl ?_; refine QV rfl rfl rfl rfl ?_; refine Qx rfl rfl rfl ?_; refine QZ rfl rfl rfl (by with_reducible first | exact fTk0 | exact fTk1 | exact fTk2 | exact fWr0 | exact fWr1 | exact XW | exact XK | exact Xe | exact fStm1 | exact fCn0 | exact fCn1 | exact fCn2 | exact fCn3 | exact fCs0 | exact fCs1) rfl ?_; refine QJ rfl rfl rfl rfl rfl (by with_reducible first | exact lInt | exact Qd | exact Q3 | exact lRess) rfl ?_; refine Qk ieql rfl rfl rfl rfl ?_; refine QV rfl rfl rfl rfl ?_; refine Qx rfl rfl rfl ?_; refine QZ rfl rfl rfl (by with_reducible first | exact fTk0 | exact fTk1 | exact fTk2 | exact fWr0 | exact fWr1 | exact XW | exact XK | exact Xe | exact fStm1 | exact fCn0 | exact fCn1 | exact fCn2 | exact fCn3 | exact fCs0 | exact fCs1) rfl ?_; refine QJ rfl rfl rfl rfl rfl (by with_reducible first | exact lInt | exact Qd | exact Q3 | exact lRess) rfl ?_; refine Qk ieql rfl rfl rfl rfl ?_; refine QV rfl rfl rfl rfl ?_; refine Qx rfl rfl rfl ?_; refine Qx rfl rfl rfl ?_; refine Qk ieql rfl rfl rfl rfl ?_; refine QV rfl rfl rfl rfl ?_; refine Qx rfl rfl rfl ?_)
    refine Q6 (n := 3) rfl rfl rfl rfl rfl (by with_reducible exact Xo) rfl ?_
    refine Q6 (n := 3) rfl rfl rfl rfl rfl (by with_reducible exact Xo) rfl ?_
    refine QY goEqual hE1 rfl rfl rfl rfl ?_
    (refine QV rfl rfl rfl rfl ?_; refine Qx rfl rfl rfl ?_)
    refine Q6 (n := 3) rfl rfl rfl rfl rfl (by with_reducible exact Xo) rfl ?_
    refine Q6 (n := 3) rfl rfl rfl rfl rfl (by with_reducible exact Xo) rfl ?_
    refine QY goEqual hE2 rfl rfl rfl rfl ?_
    (refine Qm rfl rfl rfl ?_; refine QV rfl rfl rfl rfl ?_; refine Qv rfl rfl rfl ?_; refine Qj (hK _ _ (Qz (Q0 ?_))); clear hK K)
    refine QU [_] rfl (Qu rfl QQ) rfl rfl
set_option maxHeartbeats 16000000 in
theorem LossBudget_ok (bs : List Int) (bud : Int) (hb : ∀ b ∈ bs, 0 ≤ b ∧ b < 256) (hbu : 0 ≤ bud ∧ bud < 256) : Ok Tryz.prog 5 [bytesC bs, .ex (.int .u8 bud)] (boolC true) := by
  refine Ok.enter Tryz.func5 rfl _ Tryz.ntmps5 rfl ?_
  intro S w
  have hB : Bytes (bs.take 400) := ⟨fun b h => (hb b (List.mem_of_mem_take h)).1, fun b h => (hb b (List.mem_of_mem_take h)).2, by simp; omega⟩
  have hRoll := Roll_ok bs
  generalize bs.take 400 = B0 at hB hRoll
  (refine Qw (Qq fun K hK => ?_); refine Qv rfl rfl rfl ?_; refine Qj (hK _ _ (Qz (Qw (Qw ?_)))); clear hK K; refine Qq (fun K hK => ?_))
  refine QY goawake awake_ok rfl rfl rfl rfl ?_
  (refine Qm rfl rfl rfl ?_; refine Qj (hK _ _ (Qz (Xu rfl (Q1 (Qz (Qw ?_)))))); clear hK K; refine Qq (fun K hK => ?_); refine Qx rfl rfl rfl ?_)
  refine Ops.callN 0 goRoll hRoll rfl rfl rfl rfl rfl rfl ?_
  (refine Qv rfl rfl rfl ?_; refine Qj (hK _ _ (Qz (Qw ?_))); clear hK K; refine Qq (fun K hK => ?_); refine Qx rfl rfl rfl ?_)
  refine Xj goDConsistent (DConsistent_ok B0 0 24 (by decide) (by decide) hB) rfl rfl rfl rfl rfl (fun q hx => ?_)
  obtain ⟨x, p1⟩ := q
  dsimp only at hx ⊢
  obtain ⟨hxl, hpw, hok⟩ := hx
  have hchk := chk_fine hok hpw (by omega)
  have hA := All_ok x (by omega) 0
  have hC := fun b w => Count_ok x (by omega) w b
  have h2 := alO_snd (n := 0) hchk ⟨by omega, by omega⟩
  have hcn := fun c (h : c ∈ (alO x 0).1) => cnOf_ok (n := 0) hchk ⟨by omega, by omega⟩ h
  have hll := alO_len x 0
  have hll : (alO x 0).1.length ≤ 10000 := by omega
  generalize alO x 0 = al at hA h2 hcn hll
  obtain ⟨cl, e0⟩ := al
  dsimp only at h2 hcn hA hll
  subst h2
  (refine Qv rfl rfl rfl ?_; refine Qj (hK _ _ (Qz (Qw ?_))); clear hK K; refine Qq (fun K hK => ?_); refine Qx rfl rfl rfl ?_)
  refine QY goAll hA rfl rfl rfl rfl ?_
  (refine Qx rfl rfl rfl ?_; refine Q5 rfl rfl rfl rfl ?_; refine Q5 rfl rfl rfl rfl ?_; refine Qv rfl rfl rfl ?_; refine Qv rfl rfl rfl ?_; refine Qj (hK _ _ (Qz (Qw (Qw ?_)))); clear hK K; refine Qq (fun K hK => ?_); refine Qx rfl rfl rfl ?_; refine Qk ineq rfl rfl rfl rfl ?_; refine Qj (hK _ _ (Qz (Xu rfl (Q1 (Qz (Qw ?_)))))); clear hK K; refine Qq (fun K hK => ?_))
  refine QY gorFrom (rFrom_ok 1 1 (by decide) (by decide) (by decide) (by decide) (by decide)) rfl rfl rfl rfl ?_
  (refine Qx rfl rfl rfl ?_; refine Q5 rfl rfl rfl rfl ?_; refine Q5 rfl rfl rfl rfl ?_)
  refine Qf 1 rfl rfl (by with_reducible exact zvFrac) rfl rfl rfl ?_
  refine Q9 3 rfl rfl rfl rfl rfl (by with_reducible exact szFrac) rfl rfl ?_
  (refine Qv rfl rfl rfl ?_; refine Qj (hK _ _ (Qz (Qw (Qw ?_)))); clear hK K; refine Qq (fun K hK => ?_); refine Qx rfl rfl rfl ?_)
  refine Qg rfl rfl (by with_reducible exact sCns.und) (List.length_map ..) rfl ?_
  (refine Qx rfl rfl rfl ?_; refine Qj (hK _ _ (Qz (Q8 ?_))); clear hK K)
  refine Xw (α := Nat × Nat) (fun q => q.1 ≤ cl.length) (fun q => [(1, .ct (.ex (.int .u8 bud))), (5, .own 0), (6, .ct (rssC x)), (9, .own 1), (41, .ct (cnsC cl)), (42, .ct (intC cl.length)), (43, .ct (intC q.1))])
    (fun q => [(1, .box 53 (frCs (ofQ (Rat.divInt 1 1)))), (0, .box 78 (codes B0 q.2))]) (fun q => cl.length - q.1) (0, p1) (Nat.zero_le _) (by exact QX rfl ⟨rfl, rfl, rfl, rfl, rfl, rfl, rfl, trivial⟩) ?_
  intro ⟨i, p2⟩ hi
  try dsimp only at hi ⊢
  (refine Qw (Qq fun K hK => ?_); refine Qk ilss rfl rfl rfl rfl ?_; refine Qj (hK _ _ (Qz (Qw ?_))); clear hK K)
  refine Q2 rfl (fun h => ?_) (fun h => ?_)
  rotate_left
  · (refine Xq (Qz (Qw (Qq fun K hK => ?_))); refine Qv rfl rfl rfl ?_; refine Qj (hK _ _ (Qz (Q0 ?_))); clear hK K)
    refine QU [_] rfl (Qu rfl QQ) rfl rfl
  have e2 : (i : Int).toNat = i := Int.toNat_natCast i
  have hc := hcn (cl.getD i cn0) (by rw [List.getD_eq_getElem?_getD, List.getElem?_eq_getElem (by omega)]; exact List.getElem_mem _)
  (refine Q1 (Qz (Qw (Q8 (Qw (Qq fun K hK => ?_))))))
  refine Qn rfl rfl rfl (by with_reducible exact sCns) (by omega) (cns_at (by omega) (by omega)) rfl ?_
  rw [e2]
  generalize cl.getD i cn0 = c at hc
  obtain ⟨wr, se, lo, hi'⟩ := c
  obtain ⟨⟨s1, s2⟩, ⟨g1, g2⟩, g3, g4, _, _⟩ := hc
  dsimp only at s1 s2 g1 g2 g3 g4
  have g3 : lo = hi' := by omega
  subst g3
  clear hcn
  have hCa := hC bud wr
  rw [g4 bud hbu.1 (by omega)] at hCa
  have hCb : ∀ t : Int, 0 ≤ t → t < 3 → Ok Tryz.prog 12 [rssC x, wrC wr, intC (bud + 1 + t)] (.fr (tupT [cnC ⟨wr, se, max 0 (lo - (bud + 1 + t)), lo⟩, intC 0])) := fun t h0 h1 => by
    have h := hC (bud + 1 + t) wr
    rw [g4 _ (by omega) (by omega)] at h
    exact h
  clear hC g4
  have hla : 0 ≤ max 0 (lo - bud) ∧ max 0 (lo - bud) ≤ lo ∧ ∀ t : Int, 0 ≤ t → t < 3 → max 0 (lo - (bud + 1 + t)) ≤ max 0 (lo - bud) := ⟨by omega, by omega, fun t h0 h1 => by omega⟩
  generalize max 0 (lo - bud) = la at hCa hla
  obtain ⟨l1, l2, l3⟩ := hla
  have hR := Rate_ok ⟨wr, se, la, lo⟩ (by dsimp only; omega) (by dsimp only; omega) (by dsimp only; omega)
  have eR : rateC ⟨wr, se, la, lo⟩ = .fr (tupT [ratC (Rat.divInt la se), ratC (Rat.divInt lo se), intC 0]) := if_neg (by dsimp only; omega)
  rw [eR] at hR
  clear eR
  have n1 := share_len (a := la) (b := se) (by omega) (by omega) (by omega)
  have n2 := share_len (a := lo) (b := se) (by omega) (by omega) (by omega)
  have n3 := share_len (a := 1) (b := 1) (by decide) (by decide) (by decide)
  have c1 : cmpQ (Rat.divInt la se) (Rat.divInt lo se) ≤ 0 := share_le (by omega) (by omega) (Int.mul_le_mul_of_nonneg_right l2 (by omega))
  have c2 : cmpQ (Rat.divInt lo se) (Rat.divInt 1 1) ≤ 0 := share_le (by omega) (by decide) (by omega)
  have hK1 := rFCompare_q (Rat.divInt la se) (Rat.divInt lo se) n1.1 n1.2 n2.1 n2.2
  have hK2 := rFCompare_q (Rat.divInt lo se) (Rat.divInt 1 1) n2.1 n2.2 n3.1 n3.2
  have c3 := share_neg (a := la) (b := se) (by omega) l1
  generalize Rat.divInt la se = q1 at hR hK1 c1 c3
  generalize Rat.divInt lo se = q2 at hR hK1 hK2 c1 c2
  clear n1 n2 n3
  refine X4 (n := 5) rfl rfl rfl (by with_reducible exact lCn) rfl rfl ?_
  refine Qf 2 rfl rfl (by with_reducible exact zvCn) rfl rfl rfl ?_
  refine Q9 5 rfl rfl rfl rfl rfl (by with_reducible exact szCn) rfl rfl ?_
  (refine Qj (hK _ _ (Qz (Qw ?_))); clear hK K; refine Qq (fun K hK => ?_); refine Qx rfl rfl rfl ?_; refine QZ rfl rfl rfl (by with_reducible first | exact fTk0 | exact fTk1 | exact fTk2 | exact fWr0 | exact fWr1 | exact XW | exact XK | exact Xe | exact fStm1 | exact fCn0 | exact fCn1 | exact fCn2 | exact fCn3 | exact fCs0 | exact fCs1) rfl ?_)
  refine Yy (n := 2) rfl rfl rfl rfl (Nat.le_of_ble_eq_true rfl) (by with_reducible exact Z2) rfl ?_
  (refine Qx rfl rfl rfl ?_)
  refine Ze (q := bud) rfl rfl (by with_reducible exact uU8) (by with_reducible exact uInt) (wrap64_small (by omega) (by omega)) rfl ?_
  refine QY goCount hCa rfl rfl rfl rfl ?_
  (refine Qx rfl rfl rfl ?_; refine Q5 rfl rfl rfl rfl ?_; refine Q5 rfl rfl rfl rfl ?_)
  refine Qf 3 rfl rfl (by with_reducible exact zvCn) rfl rfl rfl ?_
  refine Q9 5 rfl rfl rfl rfl rfl (by with_reducible exact szCn) rfl rfl ?_
  refine Qv rfl rfl rfl ?_
  refine Qj (hK _ _ ?_)
  clear hK K
  refine Qz ?_
  refine Qw ?_
  refine Z0 (α := Int × Nat) (fun q => 0 ≤ q.1 ∧ q.1 < 3) (fun _ => [(1, .ct (.ex (.int .u8 bud))), (5, .own 0), (6, .ct (rssC x)), (9, .own 1), (41, .ct (cnsC cl)), (42, .ct (intC cl.length)), (43, .ct (intC i)), (12, .own 2), (13, .own 3), (14, .ct (intC 0)), (15, .own 4), (16, .ct (intC 0))])
    (fun q => [(4, .box 39 (cnCs ⟨wr, se, max 0 (lo - (bud + 1 + q.1)), lo⟩)), (3, .box 39 (cnCs ⟨wr, se, la, lo⟩)), (2, .box 39 (cnCs ⟨wr, se, lo, lo⟩)), (1, .box 53 (frCs (ofQ (Rat.divInt 1 1)))), (0, .box 78 (codes B0 q.2))]) (fun q hq => ?_) (fun KN hM => ?_)
  rotate_left
  · skip
    refine St.drawQ (by with_reducible exact mixed) [7, 14] (.p 0 (.p 1 (.p 3 (.p 4 (.p 5 (.p 6 (.m 2 (.a 7 (.p 8 (.m 9 (.p 10 (.p 11 (.p 12 (.m 13 (.a 14 (.p 15 .done) .non) .non)))) (.m 13 (.m 9 (.p 10 (.p 11 (.p 12 (.a 14 (.p 15 .done) .non)))) .non) .non))) (.m 13 (.a 7 (.p 8 (.m 9 (.p 10 (.p 11 (.p 12 (.a 14 (.p 15 .done) .non)))) .non)) .non) .non)) (.a 7 (.p 8 (.f 2 (.m 9 (.p 10 (.p 11 (.p 12 (.m 13 (.a 14 (.p 15 .done) .non) .non)))) (.m 13 (.m 9 (.p 10 (.p 11 (.p 12 (.a 14 (.p 15 .done) .non)))) .non) .non)))) (.m 13 (.m 2 (.a 7 (.p 8 (.m 9 (.p 10 (.p 11 (.p 12 (.a 14 (.p 15 .done) .non)))) .non)) .non) (.a 7 (.p 8 (.f 2 (.m 9 (.p 10 (.p 11 (.p 12 (.a 14 (.p 15 .done) .non)))) .non))) .non)) .non))))))))) (by kernel_rfl) (fun K hK => ?_)
    refine XV ?_
    refine Qx rfl rfl rfl ?_
    refine Qj ?_
    refine XV ?_
    refine QZ rfl rfl rfl (by with_reducible exact fCn0) rfl ?_
    refine Qj ?_
    refine XV ?_
    refine Qx rfl rfl rfl ?_
    refine Qj ?_
    refine XV ?_
    refine Ze (q := bud) rfl rfl (by with_reducible exact uU8) (by with_reducible exact uInt) (wrap64_small (by omega) (by omega)) rfl ?_
    refine Qj ?_
    refine XV ?_
    (refine Qk (iadd (by omega) (by omega)) rfl rfl rfl rfl ?_)
    refine Qj ?_
    refine XV ?_
    refine Qx rfl rfl rfl ?_
    refine Qj ?_
    refine XU ?_ ?_
    · refine Yy (n := 2) rfl rfl rfl rfl (Nat.le_of_ble_eq_true rfl) (by with_reducible exact Z2) rfl ?_
      refine Qj ?_
      refine Xy ?_ ?_
      · refine Xj goNext (Zv B0 p2 3 (by decide) (by decide) hB) rfl rfl rfl rfl rfl (fun q hq => ?_)
        obtain ⟨t, p3⟩ := q
        dsimp only at hq ⊢
        refine Qj ?_
        refine XV ?_
        (refine Qk (iadd (by omega) (by omega)) rfl rfl rfl rfl ?_)
        refine Qj ?_
        refine XU ?_ ?_
        · refine QY goCount (hCb t hq.1 hq.2) rfl rfl rfl rfl ?_
          refine Qj ?_
          refine XV ?_
          (refine Qx rfl rfl rfl ?_)
          refine Qj ?_
          refine XV ?_
          (refine Q5 rfl rfl rfl rfl ?_)
          refine Qj ?_
          refine XV ?_
          (refine Q5 rfl rfl rfl rfl ?_)
          refine Qj ?_
          refine XU ?_ Qh
          refine Qf 4 rfl rfl (by with_reducible exact zvCn) rfl rfl rfl ?_
          refine Qj ?_
          refine Xy ?_ Qh
          refine Q9 5 rfl rfl rfl rfl rfl (by with_reducible exact szCn) rfl rfl ?_
          refine Qj ?_
          refine XV ?_
          refine Qv rfl rfl rfl ?_
          refine Qj ?_
          refine XX (hK _ _ ?_)
          exact Qp hM (t, p3) hq (QX rfl ⟨rfl, rfl, rfl, rfl, rfl, rfl, rfl, rfl, rfl, rfl, rfl, rfl, trivial⟩)
        refine XU ?_ Qh
        refine Qf 4 rfl rfl (by with_reducible exact zvCn) rfl rfl rfl ?_
        refine Qj ?_
        refine XU ?_ Qh
        refine QY goCount (hCb t hq.1 hq.2) rfl rfl rfl rfl ?_
        refine Qj ?_
        refine XV ?_
        (refine Qx rfl rfl rfl ?_)
        refine Qj ?_
        refine XV ?_
        (refine Q5 rfl rfl rfl rfl ?_)
        refine Qj ?_
        refine XV ?_
        (refine Q5 rfl rfl rfl rfl ?_)
        refine Qj ?_
        refine Xy ?_ Qh
        refine Q9 5 rfl rfl rfl rfl rfl (by with_reducible exact szCn) rfl rfl ?_
        refine Qj ?_
        refine XV ?_
        refine Qv rfl rfl rfl ?_
        refine Qj ?_
        refine XX (hK _ _ ?_)
        exact Qp hM (t, p3) hq (QX rfl ⟨rfl, rfl, rfl, rfl, rfl, rfl, rfl, rfl, rfl, rfl, rfl, rfl, trivial⟩)
      refine XU ?_ Qh
      refine Qf 4 rfl rfl (by with_reducible exact zvCn) rfl rfl rfl ?_
      refine Qj ?_
      refine Xy ?_ Qh
      refine Xj goNext (Zv B0 p2 3 (by decide) (by decide) hB) rfl rfl rfl rfl rfl (fun q hq => ?_)
      obtain ⟨t, p3⟩ := q
      dsimp only at hq ⊢
      refine Qj ?_
      refine XV ?_
      (refine Qk (iadd (by omega) (by omega)) rfl rfl rfl rfl ?_)
      refine Qj ?_
      refine XU ?_ Qh
      refine QY goCount (hCb t hq.1 hq.2) rfl rfl rfl rfl ?_
      refine Qj ?_
      refine XV ?_
      (refine Qx rfl rfl rfl ?_)
      refine Qj ?_
      refine XV ?_
      (refine Q5 rfl rfl rfl rfl ?_)
      refine Qj ?_
      refine XV ?_
      (refine Q5 rfl rfl rfl rfl ?_)
      refine Qj ?_
      refine Xy ?_ Qh
      refine Q9 5 rfl rfl rfl rfl rfl (by with_reducible exact szCn) rfl rfl ?_
      refine Qj ?_
      refine XV ?_
      refine Qv rfl rfl rfl ?_
      refine Qj ?_
      refine XX (hK _ _ ?_)
      exact Qp hM (t, p3) hq (QX rfl ⟨rfl, rfl, rfl, rfl, rfl, rfl, rfl, rfl, rfl, rfl, rfl, rfl, trivial⟩)
    refine Xy ?_ ?_
    · refine Xj goNext (Zv B0 p2 3 (by decide) (by decide) hB) rfl rfl rfl rfl rfl (fun q hq => ?_)
      obtain ⟨t, p3⟩ := q
      dsimp only at hq ⊢
      refine Qj ?_
      refine XV ?_
      (refine Qk (iadd (by omega) (by omega)) rfl rfl rfl rfl ?_)
      refine Qj ?_
      refine Xn ?_
      refine Yy (n := 2) rfl rfl rfl rfl (Nat.le_of_ble_eq_true rfl) (by with_reducible exact Z2) rfl ?_
      refine Qj ?_
      refine XU ?_ ?_
      · refine QY goCount (hCb t hq.1 hq.2) rfl rfl rfl rfl ?_
        refine Qj ?_
        refine XV ?_
        (refine Qx rfl rfl rfl ?_)
        refine Qj ?_
        refine XV ?_
        (refine Q5 rfl rfl rfl rfl ?_)
        refine Qj ?_
        refine XV ?_
        (refine Q5 rfl rfl rfl rfl ?_)
        refine Qj ?_
        refine XU ?_ Qh
        refine Qf 4 rfl rfl (by with_reducible exact zvCn) rfl rfl rfl ?_
        refine Qj ?_
        refine Xy ?_ Qh
        refine Q9 5 rfl rfl rfl rfl rfl (by with_reducible exact szCn) rfl rfl ?_
        refine Qj ?_
        refine XV ?_
        refine Qv rfl rfl rfl ?_
        refine Qj ?_
        refine XX (hK _ _ ?_)
        exact Qp hM (t, p3) hq (QX rfl ⟨rfl, rfl, rfl, rfl, rfl, rfl, rfl, rfl, rfl, rfl, rfl, rfl, trivial⟩)
      refine XU ?_ Qh
      refine Qf 4 rfl rfl (by with_reducible exact zvCn) rfl rfl rfl ?_
      refine Qj ?_
      refine XU ?_ Qh
      refine QY goCount (hCb t hq.1 hq.2) rfl rfl rfl rfl ?_
      refine Qj ?_
      refine XV ?_
      (refine Qx rfl rfl rfl ?_)
      refine Qj ?_
      refine XV ?_
      (refine Q5 rfl rfl rfl rfl ?_)
      refine Qj ?_
      refine XV ?_
      (refine Q5 rfl rfl rfl rfl ?_)
      refine Qj ?_
      refine Xy ?_ Qh
      refine Q9 5 rfl rfl rfl rfl rfl (by with_reducible exact szCn) rfl rfl ?_
      refine Qj ?_
      refine XV ?_
      refine Qv rfl rfl rfl ?_
      refine Qj ?_
      refine XX (hK _ _ ?_)
      exact Qp hM (t, p3) hq (QX rfl ⟨rfl, rfl, rfl, rfl, rfl, rfl, rfl, rfl, rfl, rfl, rfl, rfl, trivial⟩)
    refine XU ?_ Qh
    refine Qf 4 rfl rfl (by with_reducible exact zvCn) rfl rfl rfl ?_
    refine Qj ?_
    refine XU ?_ ?_
    · refine Yy (n := 2) rfl rfl rfl rfl (Nat.le_of_ble_eq_true rfl) (by with_reducible exact Z2) rfl ?_
      refine Qj ?_
      refine Xy ?_ Qh
      refine Xj goNext (Zv B0 p2 3 (by decide) (by decide) hB) rfl rfl rfl rfl rfl (fun q hq => ?_)
      obtain ⟨t, p3⟩ := q
      dsimp only at hq ⊢
      refine Qj ?_
      refine XV ?_
      (refine Qk (iadd (by omega) (by omega)) rfl rfl rfl rfl ?_)
      refine Qj ?_
      refine XU ?_ Qh
      refine QY goCount (hCb t hq.1 hq.2) rfl rfl rfl rfl ?_
      refine Qj ?_
      refine XV ?_
      (refine Qx rfl rfl rfl ?_)
      refine Qj ?_
      refine XV ?_
      (refine Q5 rfl rfl rfl rfl ?_)
      refine Qj ?_
      refine XV ?_
      (refine Q5 rfl rfl rfl rfl ?_)
      refine Qj ?_
      refine Xy ?_ Qh
      refine Q9 5 rfl rfl rfl rfl rfl (by with_reducible exact szCn) rfl rfl ?_
      refine Qj ?_
      refine XV ?_
      refine Qv rfl rfl rfl ?_
      refine Qj ?_
      refine XX (hK _ _ ?_)
      exact Qp hM (t, p3) hq (QX rfl ⟨rfl, rfl, rfl, rfl, rfl, rfl, rfl, rfl, rfl, rfl, rfl, rfl, trivial⟩)
    refine Xy ?_ Qh
    refine Xj goNext (Zv B0 p2 3 (by decide) (by decide) hB) rfl rfl rfl rfl rfl (fun q hq => ?_)
    obtain ⟨t, p3⟩ := q
    dsimp only at hq ⊢
    refine Qj ?_
    refine XV ?_
    (refine Qk (iadd (by omega) (by omega)) rfl rfl rfl rfl ?_)
    refine Qj ?_
    refine Xn ?_
    refine Yy (n := 2) rfl rfl rfl rfl (Nat.le_of_ble_eq_true rfl) (by with_reducible exact Z2) rfl ?_
    refine Qj ?_
    refine XU ?_ Qh
    refine QY goCount (hCb t hq.1 hq.2) rfl rfl rfl rfl ?_
    refine Qj ?_
    refine XV ?_
    (refine Qx rfl rfl rfl ?_)
    refine Qj ?_
    refine XV ?_
    (refine Q5 rfl rfl rfl rfl ?_)
    refine Qj ?_
    refine XV ?_
    (refine Q5 rfl rfl rfl rfl ?_)
    refine Qj ?_
    refine Xy ?_ Qh
    refine Q9 5 rfl rfl rfl rfl rfl (by with_reducible exact szCn) rfl rfl ?_
    refine Qj ?_
    refine XV ?_
    refine Qv rfl rfl rfl ?_
    refine Qj ?_
    refine XX (hK _ _ ?_)
    exact Qp hM (t, p3) hq (QX rfl ⟨rfl, rfl, rfl, rfl, rfl, rfl, rfl, rfl, rfl, rfl, rfl, rfl, trivial⟩)
  obtain ⟨t, p3⟩ := q
  dsimp only at hq ⊢
  have l4 := l3 t hq.1 hq.2
  generalize max 0 (lo - (bud + 1 + t)) = lb at l4 ⊢
  (refine Qw (Qq fun K hK => ?_); refine Q6 (n := 5) rfl rfl rfl rfl rfl (by with_reducible exact lCn) rfl ?_)
  refine QY goRate hR rfl rfl rfl rfl ?_
  (refine Qx rfl rfl rfl ?_; refine Q5 rfl rfl rfl rfl ?_; refine Q5 rfl rfl rfl rfl ?_; refine Q5 rfl rfl rfl rfl ?_)
  refine Qf 5 rfl rfl (by with_reducible exact zvFrac) rfl rfl rfl ?_
  refine Qf 6 rfl rfl (by with_reducible exact zvFrac) rfl rfl rfl ?_
  refine Q9 3 rfl rfl rfl rfl rfl (by with_reducible exact szFrac) rfl rfl ?_
  refine Q9 3 rfl rfl rfl rfl rfl (by with_reducible exact szFrac) rfl rfl ?_
  (refine Qv rfl rfl rfl ?_; refine Qj (hK _ _ (Qz (Qw (Qw ?_)))); clear hK K; refine Qq (fun K hK => ?_); refine Qx rfl rfl rfl ?_; refine Qk ineq rfl rfl rfl rfl ?_; refine Qx rfl rfl rfl ?_; refine Qx rfl rfl rfl ?_; refine Qk ineq rfl rfl rfl rfl ?_; refine QK rfl rfl rfl rfl ?_; refine Qx rfl rfl rfl ?_; refine Qx rfl rfl rfl ?_; refine Qk ineq rfl rfl rfl rfl ?_; refine QK rfl rfl rfl rfl ?_; refine Qx rfl rfl rfl ?_; refine QZ rfl rfl rfl (by with_reducible first | exact fTk0 | exact fTk1 | exact fTk2 | exact fWr0 | exact fWr1 | exact XW | exact XK | exact Xe | exact fStm1 | exact fCn0 | exact fCn1 | exact fCn2 | exact fCn3 | exact fCs0 | exact fCs1) rfl ?_; refine QJ rfl rfl rfl rfl rfl (by with_reducible first | exact lInt | exact Qd | exact Q3 | exact lRess) rfl ?_; refine QZ rfl rfl rfl (by with_reducible first | exact fTk0 | exact fTk1 | exact fTk2 | exact fWr0 | exact fWr1 | exact XW | exact XK | exact Xe | exact fStm1 | exact fCn0 | exact fCn1 | exact fCn2 | exact fCn3 | exact fCs0 | exact fCs1) rfl ?_; refine QJ rfl rfl rfl rfl rfl (by with_reducible first | exact lInt | exact Qd | exact Q3 | exact lRess) rfl ?_; refine Qk ineq rfl rfl rfl rfl ?_; refine QK rfl rfl rfl rfl ?_; refine Qx rfl rfl rfl ?_)
  refine Q4 92 rfl (fun g => absurd rfl g) (fun _ => ?_)
  (refine QZ rfl rfl rfl (by with_reducible first | exact fTk0 | exact fTk1 | exact fTk2 | exact fWr0 | exact fWr1 | exact XW | exact XK | exact Xe | exact fStm1 | exact fCn0 | exact fCn1 | exact fCn2 | exact fCn3 | exact fCs0 | exact fCs1) rfl ?_; refine QJ rfl rfl rfl rfl rfl (by with_reducible first | exact lInt | exact Qd | exact Q3 | exact lRess) rfl ?_; refine QZ rfl rfl rfl (by with_reducible first | exact fTk0 | exact fTk1 | exact fTk2 | exact fWr0 | exact fWr1 | exact XW | exact XK | exact Xe | exact fStm1 | exact fCn0 | exact fCn1 | exact fCn2 | exact fCn3 | exact fCs0 | exact fCs1) rfl ?_; refine QJ rfl rfl rfl rfl rfl (by with_reducible first | exact lInt | exact Qd | exact Q3 | exact lRess) rfl ?_; refine Qk ineq rfl rfl rfl rfl ?_; refine QK rfl rfl rfl rfl ?_; refine Qx rfl rfl rfl ?_)
  refine Q4 99 rfl (fun g => absurd rfl g) (fun _ => ?_)
  (refine QZ rfl rfl rfl (by with_reducible first | exact fTk0 | exact fTk1 | exact fTk2 | exact fWr0 | exact fWr1 | exact XW | exact XK | exact Xe | exact fStm1 | exact fCn0 | exact fCn1 | exact fCn2 | exact fCn3 | exact fCs0 | exact fCs1) rfl ?_; refine QJ rfl rfl rfl rfl rfl (by with_reducible first | exact lInt | exact Qd | exact Q3 | exact lRess) rfl ?_; refine QZ rfl rfl rfl (by with_reducible first | exact fTk0 | exact fTk1 | exact fTk2 | exact fWr0 | exact fWr1 | exact XW | exact XK | exact Xe | exact fStm1 | exact fCn0 | exact fCn1 | exact fCn2 | exact fCn3 | exact fCs0 | exact fCs1) rfl ?_; refine QJ rfl rfl rfl rfl rfl (by with_reducible first | exact lInt | exact Qd | exact Q3 | exact lRess) rfl ?_; refine Qk igtr rfl rfl rfl rfl ?_; refine QK rfl rfl rfl rfl ?_; refine Qx rfl rfl rfl ?_)
  refine Q4 106 rfl (fun g => absurd g (by show ¬ (lo < la); omega)) (fun _ => ?_)
  (refine QZ rfl rfl rfl (by with_reducible first | exact fTk0 | exact fTk1 | exact fTk2 | exact fWr0 | exact fWr1 | exact XW | exact XK | exact Xe | exact fStm1 | exact fCn0 | exact fCn1 | exact fCn2 | exact fCn3 | exact fCs0 | exact fCs1) rfl ?_; refine QJ rfl rfl rfl rfl rfl (by with_reducible first | exact lInt | exact Qd | exact Q3 | exact lRess) rfl ?_; refine QZ rfl rfl rfl (by with_reducible first | exact fTk0 | exact fTk1 | exact fTk2 | exact fWr0 | exact fWr1 | exact XW | exact XK | exact Xe | exact fStm1 | exact fCn0 | exact fCn1 | exact fCn2 | exact fCn3 | exact fCs0 | exact fCs1) rfl ?_; refine QJ rfl rfl rfl rfl rfl (by with_reducible first | exact lInt | exact Qd | exact Q3 | exact lRess) rfl ?_; refine Qk igtr rfl rfl rfl rfl ?_; refine QK rfl rfl rfl rfl ?_; refine Qx rfl rfl rfl ?_)
  refine Q4 113 rfl (fun g => absurd g (by show ¬ (la < lb); omega)) (fun _ => ?_)
  (refine QZ rfl rfl rfl (by with_reducible first | exact fTk0 | exact fTk1 | exact fTk2 | exact fWr0 | exact fWr1 | exact XW | exact XK | exact Xe | exact fStm1 | exact fCn0 | exact fCn1 | exact fCn2 | exact fCn3 | exact fCs0 | exact fCs1) rfl ?_; refine QJ rfl rfl rfl rfl rfl (by with_reducible first | exact lInt | exact Qd | exact Q3 | exact lRess) rfl ?_; refine QZ rfl rfl rfl (by with_reducible first | exact fTk0 | exact fTk1 | exact fTk2 | exact fWr0 | exact fWr1 | exact XW | exact XK | exact Xe | exact fStm1 | exact fCn0 | exact fCn1 | exact fCn2 | exact fCn3 | exact fCs0 | exact fCs1) rfl ?_; refine QJ rfl rfl rfl rfl rfl (by with_reducible first | exact lInt | exact Qd | exact Q3 | exact lRess) rfl ?_; refine Qk ineq rfl rfl rfl rfl ?_; refine QK rfl rfl rfl rfl ?_; refine Qj (hK _ _ (Qz ?_)); clear hK K)
  refine Q2 rfl (fun g => absurd rfl g) (fun _ => ?_)
  (refine Q1 (Qz (Qw (Qq fun K hK => ?_))))
  refine Q6 (n := 3) rfl rfl rfl rfl rfl (by with_reducible exact Xo) rfl ?_
  refine Q6 (n := 3) rfl rfl rfl rfl rfl (by with_reducible exact Xo) rfl ?_
  refine QY gorFCompareQ hK1 rfl rfl rfl rfl ?_
  (refine Qx rfl rfl rfl ?_; refine Q5 rfl rfl rfl rfl ?_; refine Q5 rfl rfl rfl rfl ?_; refine Qv rfl rfl rfl ?_; refine Qv rfl rfl rfl ?_; refine Qj (hK _ _ (Qz (Qw ?_))); clear hK K; refine Qq (fun K hK => ?_))
  refine Q6 (n := 3) rfl rfl rfl rfl rfl (by with_reducible exact Xo) rfl ?_
  refine Q6 (n := 3) rfl rfl rfl rfl rfl (by with_reducible exact Xo) rfl ?_
  refine QY gorFCompareQ hK2 rfl rfl rfl rfl ?_
  (refine Qx rfl rfl rfl ?_; refine Q5 rfl rfl rfl rfl ?_; refine Q5 rfl rfl rfl rfl ?_; refine Qv rfl rfl rfl ?_; refine Qv rfl rfl rfl ?_; refine Qj (hK _ _ (Qz (Qw ?_))); clear hK K; refine Qq (fun K hK => ?_); refine Qx rfl rfl rfl ?_; refine Qk igtr rfl rfl rfl rfl ?_; refine Qx rfl rfl rfl ?_)
  refine Q4 134 rfl (fun g => absurd g (by omega)) (fun _ => ?_)
  (refine Qx rfl rfl rfl ?_; refine Qk igtr rfl rfl rfl rfl ?_; refine QK rfl rfl rfl rfl ?_; refine Qx rfl rfl rfl ?_)
  refine Q4 138 rfl (fun g => absurd g (by omega)) (fun _ => ?_)
  skip
  refine QZ rfl rfl rfl (by with_reducible exact fF0) rfl ?_
  (refine QJ rfl rfl rfl rfl rfl (by with_reducible first | exact lInt | exact Qd | exact Q3 | exact lRess) rfl ?_; refine QK rfl rfl rfl rfl ?_; refine Qj (hK _ _ (Qz ?_)); clear hK K)
  refine XQ rfl (fun g => absurd (c3.symm.trans g) (by decide)) (fun _ => ?_)
  (refine Q1 (Qz (Qq fun K hK => ?_)); refine Qk (iadd (by omega) (by omega)) rfl rfl rfl rfl ?_; refine Qx rfl rfl rfl ?_; refine Qj (hK _ _ (Q7 ?_)); clear hK K)
  refine Qt 6 ?_
  refine Qt 5 ?_
  refine Qt 4 ?_
  refine Qt 3 ?_
  refine Qt 2 ?_
  refine Qc (i + 1, p3) (by dsimp only; omega) (by dsimp only; omega) (by exact QX rfl ⟨rfl, rfl, rfl, rfl, rfl, rfl, by simp only [Int.natCast_add]; rfl, trivial⟩)
end Go.Proofs.YtlkdkbdgnjcopaaGreat
namespace Go.Proofs.YtlkdkbdgnjcopaaGreat
open Go.Own Go.Limbs
section
variable {H : Type} {enc : TypeId × Value → H} {P : Program} {w : World} {base : Nat} {spare : Nat → Bool} {held : Bool}
theorem slice_in {α : Type} {t e : TypeId} {n fuel : Nat} {cs0 : List Value} {x : DataW H × List MemPlace} (ht : P.underlying t = some (.slice e)) (hn : P.cellsOf e = n) (hn0 : 0 < n) (f : α → List CT) (hf : ∀ z, (f z).length = n) (good : α → Prop)
    (hE : ∀ m cs y, DataW.trod enc P w base spare held m e cs = some y → cs.length = n → ∃ z, cells (fun _ => True) w (f z) cs ∧ good z)
    (h : DataW.trod enc P w base spare held fuel t cs0 = some x) : ∃ (v : Value) (zs : List α), cs0 = [v] ∧ zs.length ≤ 9223372036854775807 ∧ (∀ z ∈ zs, good z) ∧ (CT.fr (sliceT n (zs.map f))).p (fun _ => True) w v := by
  rcases DataW.trod_slice ht h with ⟨h0, _⟩ | ⟨a, len, cap, elems, rest, m, _, rfl, rfl, _, hl, hm, hlen, hel, _⟩
  · exact ⟨_, [], h0, Nat.zero_le _, (fun z hz => nomatch hz), nil_is n _ w⟩
  rw [hn] at hel
  have key : ∀ k, k ≤ len → ∃ (zs : List α) (vs : List Value), zs.length = k ∧ (∀ z ∈ zs, good z) ∧ cells (fun _ => True) w (zs.map f).flatten vs ∧ vs.length = k * n ∧ ∀ i u, vs[i]? = some u → w.cell? (a.add i) = some u := by
    intro k
    induction k with
    | zero => intro _; exact ⟨[], [], rfl, (fun z hz => nomatch hz), trivial, (Nat.zero_mul n).symm, fun i u hu => by simp at hu⟩
    | succ k ih =>
      intro hk
      obtain ⟨zs, vs, e1, e2, e3, e4, e5⟩ := ih (by omega)
      have h1 := hel k (by omega)
      rw [List.getElem?_eq_getElem (show k < elems.length by omega), Option.bind_eq_some_iff] at h1
      obtain ⟨cs, h2, h3⟩ := h1
      obtain ⟨_, h4, h5⟩ := World.cells?_some h2
      obtain ⟨z, h6, h7⟩ := hE _ _ _ h3 h4
      refine ⟨zs ++ [z], vs ++ cs, by simp [e1], ?_, ?_, by rw [List.length_append, e4, h4, Nat.succ_mul], ?_⟩
      · intro y hy
        rcases List.mem_append.1 hy with hy | hy
        · exact e2 y hy
        · rw [List.mem_singleton.1 hy]; exact h7
      · rw [List.map_append, List.flatten_append]
        refine cells.append e3 ?_
        simpa using h6
      · intro i u hu
        rcases Nat.lt_or_ge i (k * n) with hi | hi
        · rw [List.getElem?_append_left (by omega)] at hu
          exact e5 i u hu
        · rw [List.getElem?_append_right (by omega), e4] at hu
          have hlt : i - k * n < n := by
            have := (List.getElem?_eq_some_iff.1 hu).1
            omega
          have := h5 (i - k * n) hlt
          rw [Addr.add_add, show k * n + (i - k * n) = i by omega] at this
          rw [this, hu]
  obtain ⟨zs, vs, e1, e2, e3, e4, e5⟩ := key len (Nat.le_refl _)
  have hmx : maxLen = 9223372036854775807 := by decide
  refine ⟨_, zs, rfl, by omega, e2, some a, cap, by rw [List.length_map, e1], by rw [List.length_map, e1]; exact hl, hm, fun y hy => by obtain ⟨z, _, rfl⟩ := List.mem_map.1 hy; exact hf z, fun hne => ?_⟩
  have hpos : 0 < len := by
    rcases Nat.eq_zero_or_pos len with h0 | h0
    · rw [h0] at e1; rw [List.length_eq_zero_iff.1 e1] at hne; exact absurd rfl hne
    · exact h0
  have hvl : 0 < vs.length := by rw [e4]; exact Nat.mul_pos hpos hn0
  have h0 := e5 0 _ (List.getElem?_eq_getElem hvl)
  obtain ⟨b, o, sp⟩ := a
  have hsp : sp = none ∧ b < w.heap.size := by
    simp only [Addr.add, if_true, World.cell?] at h0
    cases e : w.heap[b]? with
    | none => rw [e] at h0; cases h0
    | some ob =>
      rw [e] at h0
      cases ob with
      | cells c t r =>
        refine ⟨?_, ZQ e⟩
        cases sp with
        | none => rfl
        | some q => simp at h0
      | _ => cases h0
  obtain ⟨rfl, hb⟩ := hsp
  refine ⟨b, o, rfl, trivial, hb, vs, e3, fun i u hu => ?_⟩
  have h1 := e5 i u hu
  have h3 : (⟨b, o, none⟩ : Addr).add i = ⟨b, o + i, none⟩ := by
    unfold Addr.add
    split
    · rename_i h; subst h; rfl
    · rfl
  rw [h3] at h1
  exact h1
theorem bytes_in {t e : TypeId} {fuel : Nat} {cs0 : List Value} {x : DataW H × List MemPlace} (ht : P.underlying t = some (.slice e)) (he : P.underlying e = some (.int .u8)) (hn : P.cellsOf e = 1)
    (h : DataW.trod enc P w base spare held fuel t cs0 = some x) : ∃ (v : Value) (zs : List Int), cs0 = [v] ∧ (∀ z ∈ zs, 0 ≤ z ∧ z < 256) ∧ (bytesC zs).p (fun _ => True) w v := by
  obtain ⟨v, zs, h1, _, h2, h3⟩ := slice_in ht hn (by decide) (fun z : Int => [CT.ex (Value.int .u8 z)]) (fun _ => rfl) (fun z => 0 ≤ z ∧ z < 256) (fun m cs y hy _ => by
    obtain ⟨z, rfl, _, hw⟩ := DataW.trod_int he hy
    exact ⟨z, ⟨rfl, trivial⟩, by have := bounds_u8 hw; omega⟩) h
  exact ⟨v, zs, h1, h2, h3⟩
end
end Go.Proofs.YtlkdkbdgnjcopaaGreat
namespace Go.Proofs.YtlkdkbdgnjcopaaGreat.lossBudget
open Go.ChangeShapes Go.WideShapes Go.ChangeAt Go.RowKit
open Go.ChangeMaps (open_string shut_string)
set_option linter.unusedVariables false
theorem byte_range {a : Int} (h : (Lit.int .u8 a).wf = true) : 0 ≤ a ∧ a < 256 := by
  simp only [Lit.wf, Bool.and_eq_true, decide_eq_true_eq] at h
  exact ⟨h.1, by have := h.2; rw [show IntKind.u8.max = 255 from rfl] at this; omega⟩
theorem own : ownKnob Tryz.prog.godebug = none := by kernel_rfl
theorem laidOut : laidOutB Tryz.prog = true := by kernel_rfl
set_option maxRecDepth 100000 in
theorem lifted (os : Os) (started : os.Started) (H : Type) (enc : TypeId × Value → H) :
    ReturnsInHanded {} Tryz.checked os 5 .any (Rows.lossBudgetSpec.pre6 enc Tryz.prog Tryz.f5 Rows.lossBudgetRow.domain false) (Rows.lossBudgetSpec.post enc Tryz.prog Tryz.f5 false true false false) := by
  refine returnsInHanded_of_change (C := Tryz.checked) own started (by kernel_rfl) Tryz.func5
    (ChangeSpec.witness6 (enc := enc) (C := Tryz.checked) false ⟨#[], #[.slice none 0 0, .int .u8 0], []⟩ 8 (by kernel_rfl) (by kernel_rfl) (by kernel_rfl) (by kernel_rfl)) ?_
  intro W base args ds gs before hval0 hW hcnd _
  have hval : ∀ (j : Nat) t v, Tryz.f5.params[j]? = some t → args[j]? = some v → Value.okWide Tryz.prog W .any base t v := hval0
  have hW' := hW
  obtain ⟨p, q, hA0, hV, rfl, hfz, hnd⟩ := hW
  have hA : DataW.TrodAll enc Tryz.prog W 0 (fun _ => true) true Tryz.f5.params.toList args.toList ds p := hA0
  rw [Tryz.params5] at hA hval
  obtain ⟨v0, vs0, d0, ds0, p0, q0, hargs0, rfl, rfl, h0, r0⟩ := trodAll_cons hA
  obtain ⟨v1, vs1, d1, ds1, p1, q1, hargs1, rfl, rfl, h1, r1⟩ := trodAll_cons r0
  obtain ⟨rfl, rfl, rfl⟩ := trodAll_nil r1
  obtain rfl : args = #[v0, v1] := by cases args; simp_all
  obtain ⟨rfl, rfl⟩ := trodVars_none hV
  obtain ⟨a0, len0, cap0, rfl⟩ := okWide_slice Tryz.underlying22 (hval 0 22 v0 rfl rfl)
  have k0 := h0
  have lt0 : ∀ x ∈ p0, x.block < W.heap.size := by obtain ⟨m, hm⟩ := k0; exact DataW.trod_lt m _ _ _ hm
  obtain ⟨f0, t0⟩ := h0
  obtain ⟨u0, z0, e0, c0, w0⟩ := bytes_in Tryz.underlying22 Tryz.underlying5 (by kernel_rfl) t0
  have e0 : Value.slice a0 len0 cap0 = u0 := by simpa [Value.cells] using e0
  subst e0
  obtain ⟨a1, rfl, rfl, rfl, w1⟩ := open_int Tryz.underlying5 (hval 1 5 v1 rfl rfl) h1
  clear hA0 hval0
  refine (((LossBudget_ok z0 a1 c0 (byte_range w1)) (fun _ => True) W [.slice a0 len0 cap0, .int .u8 a1] (fun _ _ => trivial) ⟨w0, rfl, trivial⟩)).mono fun e W' ⟨v, he, hv, bel⟩ => ?_
  have hv : v = .bool true := hv
  subst hv he
  exact ⟨_, rfl, _, _, _, [], _, [], hW', trodAll_mk1 (shut_bool Tryz.underlying4 _), (trodAll_cons_mk (Below.trod laidOut (by kernel_rfl) (of_decide_eq_true (by kernel_rfl)) k0 bel.kit lt0) (trodAll_cons_mk (shut_int Tryz.underlying5 w1) trodAll_mk0)), rfl, bel.kit.frame _, fun h => by cases h⟩
theorem over : Rows.lossBudgetRow.holds Tryz.pinned (OpenSpec.ofChange Rows.lossBudgetSpec) :=
  OpenClaim.holds_of_wide 5 Tryz.f5 rfl rfl rfl rfl rfl rfl rfl ⟨rfl, rfl, rfl, rfl, rfl⟩ rfl rfl rfl rfl rfl (by kernel_rfl) Tryz.func5 (by kernel_rfl)
    (of_decide_eq_true (by kernel_rfl)) (by unfold Func.isWrapper; first | (rw [if_pos (by decide +kernel)]; kernel_rfl) | (rw [if_neg (by decide +kernel)]; exact ⟨rfl, rfl⟩))
    (fun os started H enc _ => lifted os started H enc)
theorem proved : Rows.LossBudgetSaid := over
#print axioms proved
end Go.Proofs.YtlkdkbdgnjcopaaGreat.lossBudget
