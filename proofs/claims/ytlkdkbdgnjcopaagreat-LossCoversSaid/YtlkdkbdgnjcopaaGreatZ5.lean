/- The proof that LossCovers holds for every input, without conditions: part 5 of 5. -/
import Derived.Test.YtlkdkbdgnjcopaaGreatZ4
import Derived.ProofKit
import Derived.OpenShut
import Derived.ShutString
import Derived.ChangeOld
import Derived.DataElems
import Derived.Test.YtlkdkbdgnjcopaaGreatRows
namespace Go.Proofs.YtlkdkbdgnjcopaaGreat
open Go.Own Go.Limbs
attribute [local irreducible] Go.Own.Fin Ok Ops St
theorem uU64 : Tryz.prog.underlying 153 = some (.int .u64) := Tryz.underlying153
theorem uI64 : Tryz.prog.underlying 3 = some (.int .i64) := Tryz.underlying3
abbrev wordC (x : Int) : CT := .ex (.int .u64 x)
set_option maxHeartbeats 2000000 in
theorem rWord_ok (n : Nat) (hn : n < 18446744073709551616) : Ok Tryz.prog 99 [wordC n] (natC n) := by
  refine Ok.enter Tryz.func99 J _ Tryz.ntmps99 J ?_
  intro S w; refine Qw (Qq fun K hK => ?_); refine Qv J J J (Qj (hK _ _ (Qz (Qw ?_)))); clear hK K; refine Qq (fun K hK => ?_); refine Qv J J J (Qj (hK _ _ (Qz (Qw (Q4 ?_))))); clear hK K
  refine Xe 3 0 3 1 J J J ?_
  skip
  refine Xj (α := Nat × List Int) (fun s => s.1 ≤ n ∧ limbs n = s.2 ++ limbs s.1)
    (fun s => [(0, .ct (wordC s.1)), (3, .own 0)]) (fun s => [(0, .row 3 1 (ints s.2))]) (fun s => s.1) (n, []) ⟨Nat.le_refl _, rfl⟩ (by exact QX J ⟨rfl, rfl, trivial⟩) ?_
  rintro ⟨m, zs⟩ ⟨hm, hv⟩
  dsimp only at hm hv ⊢
  have hl : zs.length ≤ 64 := by
    have h1 := congrArg List.length hv; have h2 := XJ (n := n) (k := 3) (by omega); simp at h1; omega
  refine Qw (Qw (Qq fun K hK => ?_)); refine Qx J J J (Qk igtr J J J J (Qj (hK _ _ (Qz ?_)))); clear hK K; refine Q2 J (fun h => ?_) (fun h => ?_)
  · refine Q1 (Qz (Qw (Q4 (Qq fun K hK => ?_)))); refine Qx J J J (Qx J J J (Qk (urem (by omega) (by omega)) J J J J ?_))
    refine Yx J J uU64 uI64 (Yy (by omega) (by omega)) J ?_
    refine Zq J J sNat J J J (Qt zs.length (ints (zs ++ [(m : Int) % 1073741824])) J J J J sNat (by simp [ints]) J (by omega) (by omega) (by simp [ints]) J ?_); refine Qv J J J (Qj (hK _ _ (Qz ?_))); clear hK K; refine Qq (fun K hK => ?_); refine Qx J J J (Qk (uquo (by omega) (by omega) (by omega)) J J J J ?_); refine Qv J J J (Qj (hK _ _ (Q3 ?_))); clear hK K
    refine Q9 (m / 1073741824, zs ++ [(m : Int) % 1073741824]) (by dsimp only; omega) ⟨by dsimp only; omega, ?_⟩ ?_
    all_goals dsimp only
    · rw [hv, limbs_pos (n := m) (by omega)]; simp
    · exact QX J ⟨by rw [Int.natCast_ediv]; rfl, rfl, trivial⟩
  · have : m = 0 := by omega
    subst this; rw [limbs_zero, List.append_nil] at hv; subst hv; refine St.freeze 0 _ J (Zw _ _) XZ (Qp (Qz (Qw (Qq fun K hK => ?_)))); refine Qx J J J (Qv J J J (Qj (hK _ _ (Qz (Q0 ?_))))); clear hK K; refine QK [_] rfl (Qu J QQ) J J
theorem gorWord : InGo Tryz.prog 99 := InGo.of Tryz.func99 (by kernel_rfl) (by kernel_rfl)
theorem cmpI_le {a b : Int} : cmpI a b ≤ 0 ↔ a ≤ b := by unfold cmpI; split <;> (try split) <;> omega
theorem rTimes_one (b m : Nat) (h0 : 0 < m) (h1 : m < 1073741824) (hl : (limbs b).length ≤ 100000) : Ok Tryz.prog 135 [natC b, .fr (sliceT 1 [[intC m]])] (natC (b * m)) := by
  have h := rTimes_ok b m (by rw [Z1 h0 h1]; simp; omega)
  have e : natC m = .fr (sliceT 1 [[intC m]]) := by show intsC (limbs m) = _; rw [Z1 h0 h1]; rfl
  rw [← e]; exact h
theorem split_step {v b r R A p x P d : Int} (K : Int) (hR : R = r * K + x) (hv : v * b + r * (P * K) = A - (p + x * P)) : (v + d * P) * b + (R - b * d) * P = A - p := by
  subst hR; grind
theorem len_lt_mul {R b k : Nat} (h : (limbs b).length ≤ k) (hR : R < b * 1073741824) : (limbs R).length ≤ k + 1 := by
  refine XJ ?_
  rw [Nat.pow_succ]; exact Nat.lt_trans hR (Nat.mul_lt_mul_of_pos_right (X9 h) (by decide))
set_option maxHeartbeats 4000000 in
theorem rSplit_ok (a b : Nat) (hb : 0 < b) (la : (limbs a).length ≤ 10000) (lb : (limbs b).length ≤ 10000) : Ok Tryz.prog 98 [natC a, natC b] (.fr (tupT [natC (a / b), natC (a % b)])) := by
  refine Ok.enter Tryz.func98 J _ Tryz.ntmps98 J ?_
  intro S w; refine Qw (Qq fun K hK => ?_); refine Qv J J J (Qv J J J (Qj (hK _ _ (Qz (Qw ?_))))); clear hK K; refine Qq (fun K hK => ?_); refine Qx J J J (Qd J J sNat.und (List.length_map ..) J (Ops.make 0 (limbs a).length J J J J sNat (by omega) (by omega) J J J ?_)); rw [ints_made]; refine Qv J J J (Qj (hK _ _ (Qz (Qw ?_)))); clear hK K; refine Qq (fun K hK => ?_); refine Qv J J J (Qj (hK _ _ (Qz (Qw (Qw ?_))))); clear hK K; refine Qq (fun K hK => ?_); refine Qx J J J (Qd J J sNat.und (List.length_map ..) J (Qk (isub (by omega) (by omega)) J J J J ?_)); refine Qv J J J (Qj (hK _ _ (Qz (Q4 ?_)))); clear hK K
  refine St.asNil 7 1 J ?_
  refine Xj (α := Nat × List Int × Nat) (fun s => s.1 ≤ (limbs a).length ∧ s.2.1.length = (limbs a).length ∧ OKL s.2.1 ∧ (∀ j, j < s.1 → s.2.1.getD j 0 = 0) ∧ s.2.2 < b ∧ val s.2.1 * b + s.2.2 * BB ^ s.1 = val (limbs a) - pre (limbs a) s.1)
    (fun s => [(0, .ct (natC a)), (1, .ct (natC b)), (6, .own 0), (7, .ct (natC s.2.2)), (8, .ct (intC ((s.1 : Int) - 1)))])
    (fun s => [(0, .row 3 1 (ints s.2.1))]) (fun s => s.1) ((limbs a).length, List.replicate (limbs a).length 0, 0) ⟨Nat.le_refl _, by simp, OKL.zeros _, ?_, hb, ?_⟩ (by exact QX J ⟨rfl, rfl, rfl, by rw [natC_zero]; rfl, rfl, trivial⟩) ?_
  · intro j _; simp [List.getD_eq_getElem?_getD, List.getElem?_replicate]; split <;> rfl
  · dsimp only; rw [val_zeros, Zr (Nat.le_refl _)]; simp
  rintro ⟨q, zs, rr⟩ ⟨hq, hzl, hok, hz, hrb, hv⟩
  dsimp only at hq hzl hok hz hrb hv ⊢; refine Qw (Qw (Qq fun K hK => ?_)); refine Qx J J J (Qk igeq J J J J (Qj (hK _ _ (Qz ?_)))); clear hK K; refine Q2 J (fun h => ?_) (fun h => ?_)
  · obtain ⟨i, rfl⟩ : ∃ i, q = i + 1 := ⟨q - 1, by omega⟩
    have e1 : (((i + 1 : Nat) : Int) - 1) = (i : Int) := by omega
    have e2 : (i : Int).toNat = i := Int.toNat_natCast i
    have e3 : (i : Int).toNat * 1 = i := by omega
    have bx := (Xh a).get i; simp only [BB] at bx; obtain ⟨R, hR⟩ : ∃ R : Nat, (R : Int) = rr * 1073741824 + (limbs a).getD i 0 := ⟨((rr : Int) * 1073741824 + (limbs a).getD i 0).toNat, by omega⟩; have lrr : (limbs rr).length ≤ 10000 := Nat.le_trans (Xa (Nat.le_of_lt hrb)) lb
    have eT : trimL ((limbs a).getD i 0 :: limbs rr) = limbs R := by
      rw [Z7 (OKL.cons (by simp only [BB]; omega) (Xh rr))]; simp only [val]; rw [ZW]; congr 1; simp only [BB]; omega
    have hRb : R < b * 1073741824 := by
      have h1 : (rr + 1) * 1073741824 ≤ b * 1073741824 := Nat.mul_le_mul_right _ (by omega); omega
    have lR : (limbs R).length ≤ 10001 := len_lt_mul lb hRb; rw [Xs, Int.pow_succ] at hv; rw [e1]; refine Q1 (Qz (Qw (Q4 (Qw (Qq fun K hK => ?_))))); refine Qx J J J (Qx J J J (Ql J J J sNat (by omega) (X3 (by omega) (by omega)) J ?_))
    refine XQ J J J lInt J ?_
    rw [e2]; refine Ops.lit1E 1 J J sNat J J J J J (Qx J J J (Ops.append 1 (ints ((limbs a).getD i 0 :: limbs rr)) J J J J sNat J ?_ (by simp; omega) (by simp; omega) ?_ J ?_))
    · rw [flat_one]; exact ints_ones _
    · rw [flat_one]; rfl
    refine X2 1 _ J (Zw _ _) XZ (QW gorTrim (rTrim_ok _ (by simp; omega)) J J J J ?_); rw [eT]; refine Qv J J J (Qj (hK _ _ (Qz (Qw (Qw ?_))))); clear hK K; refine Qq (fun K hK => ?_); refine Qx J J J (Qx J J J (QW gorCompare (rCompare_ok R b (by omega) (by omega)) J J J J ?_)); refine Qk ilss J J J J (Qj (hK _ _ (Qz ?_))); clear hK K; refine Q2 J (fun h2 => ?_) (fun h2 => ?_)
    · rw [cmpI_neg] at h2; refine Qp (Qz (Qq fun K hK => ?_)); refine Qx J J J (Qk (isub (by omega) (by omega)) J J J J ?_); refine Qv J J J (Qj (hK _ _ (Q3 ?_))); clear hK K; refine Q9 (i, zs, R) (by dsimp only; omega) ⟨by dsimp only; omega, hzl, hok, fun j hj => hz j (by dsimp only at hj; omega), by dsimp only; omega, ?_⟩ (by exact QX J ⟨rfl, rfl, rfl, rfl, rfl, trivial⟩); dsimp only; have := split_step (d := 0) BB hR hv
      simpa using this
    · rw [cmpI_neg] at h2; refine Q1 (Qz (Qw (Qq fun K hK => ?_))); refine Qv J J J (Qv J J J (Qj (hK _ _ (Qz (Qw (Q4 ?_)))))); clear hK K
      refine Xj (α := Nat × Nat) (fun s => 1 ≤ s.1 ∧ s.1 ≤ s.2 ∧ s.2 ≤ 1073741823 ∧ b * s.1 ≤ R ∧ R < b * (s.2 + 1))
        (fun s => [(0, .ct (natC a)), (1, .ct (natC b)), (6, .own 0), (7, .ct (natC R)), (8, .ct (intC i)), (9, .ct (intC s.1)), (10, .ct (intC s.2))])
        (fun _ => [(0, .row 3 1 (ints zs))]) (fun s => s.2 - s.1) (1, 1073741823) ⟨Nat.le_refl _, by decide, Nat.le_refl _, by omega, hRb⟩ (by exact QX J ⟨rfl, rfl, rfl, rfl, rfl, rfl, rfl, trivial⟩) ?_
      rintro ⟨lo, hi⟩ ⟨k1, k2, k3, k4, k5⟩
      dsimp only at k1 k2 k3 k4 k5 ⊢; refine Qw (Qw (Qq fun K hK => ?_)); refine Qx J J J (Qx J J J (Qk ilss J J J J (Qj (hK _ _ (Qz ?_))))); clear hK K; refine Q2 J (fun h3 => ?_) (fun h3 => ?_)
      · obtain ⟨m, hm⟩ : ∃ m : Nat, m = (lo + hi + 1) / 2 := ⟨_, rfl⟩
        have em : ((lo : Int) + hi + 1) / 2 = (m : Int) := by omega
        have lbm : (limbs (b * m)).length ≤ 10001 := Nat.le_trans limbs_mul_len (by
          have := XJ (n := m) (k := 1) (by omega)
          omega)
        refine Q1 (Qz (Q4 (Qw (Qq fun K hK => ?_)))); refine Qx J J J (Qx J J J (Qk (iadd (by omega) (by omega)) J J J J ?_))
        refine Qk (iadd (by omega) (by omega)) J J J J ?_
        refine Qk (iquo (by omega) (by omega) (by omega)) J J J J ?_
        refine Qv J J J (Qj (hK _ _ (Qz (Qw ?_)))); clear hK K; refine Qq (fun K hK => ?_); refine Qx J J J (Qx J J J ?_); rw [em]; skip; refine Zq J J sNat J J J (QW gorTimes (rTimes_one b m (by omega) (by omega) (by omega)) J J J J ?_); refine Qx J J J (QW gorCompare (rCompare_ok (b * m) R (by omega) (by omega)) J J J J ?_); refine Qk ileq J J J J (Qj (hK _ _ (Qz ?_))); clear hK K; refine Q2 J (fun h4 => ?_) (fun h4 => ?_)
        · rw [cmpI_le] at h4; refine Qq (fun K hK => ?_); refine Qx J J J (Qv J J J (Qj (hK _ _ (Qb (Q3 ?_))))); clear hK K; refine Q9 (m, hi) (by dsimp only; omega) ⟨by dsimp only; omega, by dsimp only; omega, k3, by dsimp only; omega, k5⟩ (by exact QX J ⟨rfl, rfl, rfl, rfl, rfl, rfl, rfl, trivial⟩)
        · rw [cmpI_le] at h4; refine Qq (fun K hK => ?_); refine Qx J J J (Qk (isub (by omega) (by omega)) J J J J ?_); refine Qv J J J (Qj (hK _ _ (Qb (Q3 ?_)))); clear hK K; refine Q9 (lo, m - 1) (by dsimp only; omega) ⟨k1, by dsimp only; omega, by dsimp only; omega, k4, ?_⟩ (by exact QX J ⟨rfl, rfl, rfl, rfl, rfl, rfl, by rw [show ((m - 1 : Nat) : Int) = (m : Int) - 1 by omega]; rfl, trivial⟩); dsimp only; rw [show m - 1 + 1 = m by omega]; omega
      · have h6 : lo = hi := by omega
        subst h6
        have lbm : (limbs (b * lo)).length ≤ 10001 := Nat.le_trans limbs_mul_len (by
          have := XJ (n := lo) (k := 1) (by omega)
          omega)
        refine Qp (Qz (Qw (Qq fun K hK => ?_))); refine Qx J J J (Qx J J J (Qx J J J (Zv (limbs a).length J J J (by simp [ints]; omega) J sNat (by omega) (by omega) J ?_))); rw [e3]
        refine X6 J J J J J zInt (by simp [Ent.cs, ints]; omega) ?_
        simp only [Ent.setc, ints_set]; refine Qj (hK _ _ (Qz ?_)); clear hK K; refine Qq (fun K hK => ?_); refine Qx J J J (Qx J J J (Qx J J J (Zq J J sNat J J J (QW gorTimes (rTimes_one b lo (by omega) (by omega) (by omega)) J J J J ?_))))
        refine QW gorLess (rLess_ok R (b * lo) k4 (by omega)) J J J J ?_
        refine Qv J J J (Qj (hK _ _ (Qz ?_))); clear hK K; refine Qq (fun K hK => ?_); refine Qx J J J (Qk (isub (by omega) (by omega)) J J J J ?_); refine Qv J J J (Qj (hK _ _ (Q3 ?_))); clear hK K; refine Q9 (i, zs.set i (lo : Int), R - b * lo) (by dsimp only; omega) ⟨by dsimp only; omega, by simp [hzl], ?_, ?_, ?_, ?_⟩ (by exact QX J ⟨rfl, rfl, rfl, rfl, rfl, trivial⟩)
        all_goals dsimp only
        · exact hok.set _ (by simp only [BB]; omega)
        · intro j hj; rw [getD_set (by omega), if_neg (by omega)]; exact hz j (by omega)
        · rw [Nat.mul_add] at k5; omega
        · rw [val_set (by omega), hz i (by omega), Int.sub_zero, show ((R - b * lo : Nat) : Int) = (R : Int) - b * lo by rw [Int.natCast_sub k4, Int.natCast_mul]]; exact split_step BB hR hv
  · have hq0 : q = 0 := by omega
    subst hq0
    have e4 : val zs * b + rr = a := by rw [Z8, ZW] at hv; simpa using hv
    have hvz := val_nonneg hok; obtain ⟨Q, hQ⟩ : ∃ Q : Nat, val zs = Q := ⟨(val zs).toNat, by omega⟩; rw [hQ] at e4
    have e4' : a = rr + Q * b := by
      have : ((Q * b + rr : Nat) : Int) = a := by rw [Int.natCast_add, Int.natCast_mul]; exact e4
      omega
    have e5 : a / b = Q ∧ a % b = rr := by
      rw [e4']; constructor
      · rw [Nat.add_mul_div_right _ _ hb, Nat.div_eq_of_lt hrb]; omega
      · rw [Nat.add_mul_mod_self_right, Nat.mod_eq_of_lt hrb]
    refine St.freeze 0 _ J (Zw _ _) XZ (Qp (Qz (Qw (Qq fun K hK => ?_)))); refine Qx J J J (QW gorTrim (rTrim_ok zs (by omega)) J J J J ?_); rw [Z7 hok, hQ, Int.toNat_natCast]; refine Qx J J J (Qv J J J (Qv J J J (Qj (hK _ _ (Qz (Q0 ?_)))))); clear hK K; refine QK [_, _] rfl (Qu J (Qu J QQ)) (by rw [e5.1, e5.2]; rfl) J
theorem gorSplit : InGo Tryz.prog 98 := InGo.of Tryz.func98 (by kernel_rfl) (by kernel_rfl)
theorem limbs_get0 {x : Nat} (h : x ≠ 0) : (limbs x).getD 0 0 = ((x % 1073741824 : Nat) : Int) := by rw [limbs_pos h]; rfl
theorem gcd_half {x y : Nat} (hx : x % 2 = 0) (hy : y % 2 = 1) : Nat.gcd (x / 2) y = Nat.gcd x y := by
  have e : x = 2 * (x / 2) := by omega
  have hc : Nat.Coprime 2 y := by
    unfold Nat.Coprime; rw [Nat.gcd_rec, hy]; rfl
  conv => rhs; rw [e]
  exact (hc.gcd_mul_left_cancel _).symm
theorem gcd_two {x y : Nat} (hx : x % 2 = 0) (hy : y % 2 = 0) : 2 * Nat.gcd (x / 2) (y / 2) = Nat.gcd x y := by
  rw [← Nat.gcd_mul_left, show 2 * (x / 2) = x by omega, show 2 * (y / 2) = y by omega]
theorem gcd_less {x y : Nat} (h : y ≤ x) : Nat.gcd (x - y) y = Nat.gcd x y := by
  conv => rhs; rw [show x = (x - y) + y by omega]
  rw [Nat.gcd_add_self_left]
theorem len_add {x y k : Nat} (h1 : x < 1073741824 ^ k) (h2 : y < 1073741824 ^ k) : (limbs (x + y)).length ≤ k + 1 := by
  refine XJ ?_
  rw [Nat.pow_succ]; omega
set_option maxHeartbeats 8000000 in
theorem rGcd_ok (a b : Nat) (la : (limbs a).length ≤ 10000) (lb : (limbs b).length ≤ 10000) : Ok Tryz.prog 97 [natC a, natC b] (natC (Nat.gcd a b)) := by
  refine Ok.enter Tryz.func97 J _ Tryz.ntmps97 J ?_
  intro S w; refine Qw (Qq fun K hK => ?_); refine Qv J J J (Qj (hK _ _ (Qz (Qw (Qw ?_))))); clear hK K; refine Qq (fun K hK => ?_); refine Qx J J J (Qd J J sNat.und (List.length_map ..) J (Qk ieql J J J J (Qx J J J ?_)))
  have early : (limbs a).length = 0 ∨ (limbs b).length = 0 → natC (Nat.gcd a b) = natC (a + b) := by
    rintro (h | h)
    · have : a = 0 := Zs (List.eq_nil_of_length_eq_zero h); subst this; simp
    · have : b = 0 := Zs (List.eq_nil_of_length_eq_zero h); subst this; simp
  refine Q6 9 J (fun g1 => ?_) (fun g1 => ?_)
  · have ee := early (.inl (by omega)); refine Qy J J J (Qy J J J (Qy J J J (QZ J J J J (Qj (hK _ _ (Qz (Qo J (Qw ?_)))))))); clear hK K; refine Qq (fun K hK => ?_); refine Qx J J J (Qx J J J (QW gorPlus (rPlus_ok a b (by omega) (by omega)) J J J J ?_)); refine Qv J J J (Qj (hK _ _ (Qz (Q0 (QY ?_))))); clear hK K; refine QK [_] rfl (Qu J QQ) (by rw [ee]; rfl) J
  · refine Qx J J J (Qd J J sNat.und (List.length_map ..) J (Qk ieql J J J J (QU J J J J (Qj (hK _ _ (Qz ?_)))))); clear hK K; refine Q2 J (fun g2 => ?_) (fun g2 => ?_)
    · have ee := early (.inr (by omega)); refine Qw (Qq fun K hK => ?_); refine Qx J J J (Qx J J J (QW gorPlus (rPlus_ok a b (by omega) (by omega)) J J J J ?_)); refine Qv J J J (Qj (hK _ _ (Qz (Q0 (QY ?_))))); clear hK K; refine QK [_] rfl (Qu J QQ) (by rw [ee]; rfl) J
    · have ha0 : a ≠ 0 := limbs_len_pos.mp (by omega); have hb0 : b ≠ 0 := limbs_len_pos.mp (by omega); clear early
      have e11 : natC 1 = .fr (sliceT 1 [[intC 1]]) := by show intsC (limbs 1) = _; rw [Z1 (by decide) (by decide)]; rfl
      have h00 : (0 : Int).toNat = 0 := rfl; refine Q1 (Qz (Qw (Qq fun K hK => ?_)))
      refine Zq J J sNat J J J ?_
      rw [← e11]; refine Qv J J J (Qj (hK _ _ (Qz (Qw (Q4 ?_))))); clear hK K
      refine Xj (α := Nat × Nat × Nat) (fun s => 0 < s.1 ∧ 0 < s.2.1 ∧ 0 < s.2.2 ∧ s.1 ≤ a ∧ s.2.1 ≤ b ∧ s.2.2 * s.1 ≤ a ∧ s.2.2 * Nat.gcd s.1 s.2.1 = Nat.gcd a b)
        (fun s => [(0, .ct (natC s.1)), (1, .ct (natC s.2.1)), (5, .ct (natC s.2.2))]) (fun _ => []) (fun s => s.1) (a, b, 1) ⟨by dsimp only; omega, by dsimp only; omega, Nat.one_pos, Nat.le_refl _, Nat.le_refl _, by dsimp only; omega, by dsimp only; omega⟩ (by exact QX J ⟨rfl, rfl, rfl, trivial⟩) ?_
      rintro ⟨x, y, u⟩ ⟨hx, hy, hu, hxa, hyb, hua, hg⟩
      dsimp only at hx hy hu hxa hyb hua hg ⊢; have lx : (limbs x).length ≤ 10000 := Nat.le_trans (Xa hxa) la; have ly : (limbs y).length ≤ 10000 := Nat.le_trans (Xa hyb) lb; have lu : (limbs u).length ≤ 10000 := Nat.le_trans (Xa (Nat.le_trans (Nat.le_mul_of_pos_right u hx) hua)) la; have px := limbs_len_pos.mpr (show x ≠ 0 by omega); have py := limbs_len_pos.mpr (show y ≠ 0 by omega); have gx := limbs_get0 (show x ≠ 0 by omega); have gy := limbs_get0 (show y ≠ 0 by omega); refine Qw (Qw (Qq fun K hK => ?_)); refine Qx J J J (Ql J J J sNat (by omega) (X3 (by omega) (by omega)) J ?_)
      refine XQ J J J lInt J ?_
      rw [h00, gx]
      refine Qk (irem (by omega) (by omega)) J J J J ?_
      refine Qk ieql J J J J (Qx J J J (Q6 23 J (fun g3 => ?_) (fun g3 => ?_)))
      · refine Qx J J J (Ql J J J sNat (by omega) (X3 (by omega) (by omega)) J ?_)
        refine XQ J J J lInt J ?_
        rw [h00, gy]
        refine Qk (irem (by omega) (by omega)) J J J J ?_
        refine Qk ieql J J J J (QZ J J J J (Qj (hK _ _ (Qz ?_)))); clear hK K; refine Q2 J (fun g4 => ?_) (fun g4 => ?_)
        · refine Q1 (Qz (Q4 (Qq fun K hK => ?_))); refine Qx J J J (QW gorhalf (rhalf_ok x (by omega)) J J J J ?_); refine Qx J J J (QW gorhalf (rhalf_ok y (by omega)) J J J J ?_); refine Qx J J J (Qx J J J (QW gorPlus (rPlus_ok u u (by omega) (by omega)) J J J J ?_)); refine Qv J J J (Qv J J J (Qv J J J (Qj (hK _ _ (Qb (Q3 ?_)))))); clear hK K; have q1 := gcd_two (x := x) (y := y) (by omega) (by omega); refine Q9 (x / 2, y / 2, u + u) (by dsimp only; omega) ⟨by dsimp only; omega, by dsimp only; omega, by dsimp only; omega, by dsimp only; omega, by dsimp only; omega, ?_, ?_⟩ (by exact QX J ⟨rfl, rfl, rfl, trivial⟩)
          · dsimp only; rw [← Nat.two_mul, Nat.mul_comm 2 u, Nat.mul_assoc, show 2 * (x / 2) = x by omega]; exact hua
          · dsimp only; rw [← Nat.two_mul, Nat.mul_comm 2 u, Nat.mul_assoc, q1]; exact hg
        · have hodd : x % 2 = 1 ∨ y % 2 = 1 := by omega
          clear g3 g4 gx gy; refine Qp (Qz (Qw (Q4 ?_)))
          refine Xj (α := Nat × Nat) (fun s => s.1 ≤ a ∧ s.2 ≤ b ∧ (s.1 % 2 = 1 ∨ s.2 % 2 = 1) ∧ u * Nat.gcd s.1 s.2 = Nat.gcd a b)
            (fun s => [(0, .ct (natC s.1)), (1, .ct (natC s.2)), (5, .ct (natC u))]) (fun _ => []) (fun s => s.1 + s.2) (x, y) ⟨hxa, hyb, hodd, hg⟩ (by exact QX J ⟨rfl, rfl, rfl, trivial⟩) ?_
          clear hodd hg hxa hyb hua px py lx ly hx hy
          rintro ⟨p, q⟩ ⟨hpa, hqb, hodd, hg⟩
          dsimp only at hpa hqb hodd hg ⊢; have lp : (limbs p).length ≤ 10000 := Nat.le_trans (Xa hpa) la; have lq : (limbs q).length ≤ 10000 := Nat.le_trans (Xa hqb) lb
          have done : p = 0 ∨ q = 0 → natC (Nat.gcd a b) = natC (u * (p + q)) := by
            rintro (h | h)
            · subst h; rw [← hg]; simp
            · subst h; rw [← hg]; simp
          have lpq : (limbs (p + q)).length ≤ 10001 := by
            have h1 := X9 lp; have h2 := X9 lq; exact len_add h1 h2
          refine Qw (Qw (Qq fun K hK => ?_)); refine Qx J J J (Qd J J sNat.und (List.length_map ..) J (Qk igtr J J J J (Qx J J J (Q6 40 J (fun g5 => ?_) (fun g5 => ?_)))))
          · refine Qx J J J (Qd J J sNat.und (List.length_map ..) J (Qk igtr J J J J (QZ J J J J (Qj (hK _ _ (Qz ?_)))))); clear hK K; refine Q2 J (fun g6 => ?_) (fun g6 => ?_)
            · have hp0 : p ≠ 0 := limbs_len_pos.mp (by omega); have hq0 : q ≠ 0 := limbs_len_pos.mp (by omega); have gp := limbs_get0 hp0; have gq := limbs_get0 hq0; clear done; refine Q1 (Qz (Q4 (Q4 (Qw (Qq fun K hK => ?_))))); refine Qx J J J (Ql J J J sNat (by omega) (X3 (by omega) (by omega)) J ?_)
              refine XQ J J J lInt J ?_
              rw [h00, gp]
              refine Qk (irem (by omega) (by omega)) J J J J ?_
              refine Qk ieql J J J J (Qv J J J (Qj (hK _ _ (Qz ?_)))); clear hK K; refine Q2 J (fun g7 => ?_) (fun g7 => ?_)
              · have q1 := gcd_half (x := p) (y := q) (by omega) (by omega); refine Qq (fun K hK => ?_); refine Qx J J J (QW gorhalf (rhalf_ok p (by omega)) J J J J ?_); refine Qv J J J (Qj (hK _ _ (Qb (Qb (Q3 ?_))))); clear hK K; refine Q9 (p / 2, q) (by dsimp only; omega) ⟨by dsimp only; omega, hqb, by dsimp only; omega, by dsimp only; rw [q1]; exact hg⟩ (by exact QX J ⟨rfl, rfl, rfl, trivial⟩)
              · refine Qw (Qq fun K hK => ?_); refine Qx J J J (Ql J J J sNat (by omega) (X3 (by omega) (by omega)) J ?_)
                refine XQ J J J lInt J ?_
                rw [h00, gq]
                refine Qk (irem (by omega) (by omega)) J J J J ?_
                refine Qk ieql J J J J (Qv J J J (Qj (hK _ _ (Qz ?_)))); clear hK K; refine Q2 J (fun g8 => ?_) (fun g8 => ?_)
                · have q1 := gcd_half (x := q) (y := p) (by omega) (by omega); refine Qq (fun K hK => ?_); refine Qx J J J (QW gorhalf (rhalf_ok q (by omega)) J J J J ?_); refine Qv J J J (Qj (hK _ _ (Qb (Qb (Q3 ?_))))); clear hK K; refine Q9 (p, q / 2) (by dsimp only; omega) ⟨hpa, by dsimp only; omega, by dsimp only; omega, by dsimp only; rw [Nat.gcd_comm, q1, Nat.gcd_comm]; exact hg⟩ (by exact QX J ⟨rfl, rfl, rfl, trivial⟩)
                · refine Qw (Qq fun K hK => ?_); refine Qx J J J (Qx J J J (QW gorCompare (rCompare_ok p q (by omega) (by omega)) J J J J ?_)); refine Qk igeq J J J J (Qv J J J (Qj (hK _ _ (Qz ?_)))); clear hK K; refine Q2 J (fun g9 => ?_) (fun g9 => ?_)
                  · have hle : q ≤ p := by have := cmpI_neg (a := p) (b := q); omega
                    have q1 := gcd_less hle; refine Qq (fun K hK => ?_); refine Qx J J J (Qx J J J (QW gorLess (rLess_ok p q hle (by omega)) J J J J ?_)); refine Qv J J J (Qj (hK _ _ (Qb (Qb (Q3 ?_))))); clear hK K; refine Q9 (p - q, q) (by dsimp only; omega) ⟨by dsimp only; omega, hqb, by dsimp only; omega, by dsimp only; rw [q1]; exact hg⟩ (by exact QX J ⟨rfl, rfl, rfl, trivial⟩)
                  · have hle : p ≤ q := by have := cmpI_neg (a := p) (b := q); omega
                    have q1 := gcd_less hle; refine Qq (fun K hK => ?_); refine Qx J J J (Qx J J J (QW gorLess (rLess_ok q p hle (by omega)) J J J J ?_)); refine Qv J J J (Qj (hK _ _ (Qb (Qb (Q3 ?_))))); clear hK K; refine Q9 (p, q - p) (by dsimp only; omega) ⟨hpa, by dsimp only; omega, by dsimp only; omega, by dsimp only; rw [Nat.gcd_comm, q1, Nat.gcd_comm]; exact hg⟩ (by exact QX J ⟨rfl, rfl, rfl, trivial⟩)
            · have hd := done (.inr (Zs (List.eq_nil_of_length_eq_zero (by omega)))); refine Qp (Qz (Qw (Qq fun K hK => ?_))); refine Qx J J J (Qx J J J (Qx J J J (QW gorPlus (rPlus_ok p q (by omega) (by omega)) J J J J ?_)))
              refine QW gorTimes (rTimes_ok u (p + q) (by omega)) J J J J ?_
              refine Qv J J J (Qj (hK _ _ (Qz (Q0 ?_)))); clear hK K; refine QK [_] rfl (Qu J QQ) (by rw [hd]; rfl) J
          · have hd := done (.inl (Zs (List.eq_nil_of_length_eq_zero (by omega)))); refine Qy J J J (Qy J J J (Qy J J J (QU J J J J (Qj (hK _ _ (Qz (Xv J (Qp (Qz (Qw ?_)))))))))); clear hK K; refine Qq (fun K hK => ?_); refine Qx J J J (Qx J J J (Qx J J J (QW gorPlus (rPlus_ok p q (by omega) (by omega)) J J J J ?_)))
            refine QW gorTimes (rTimes_ok u (p + q) (by omega)) J J J J ?_
            refine Qv J J J (Qj (hK _ _ (Qz (Q0 ?_)))); clear hK K; refine QK [_] rfl (Qu J QQ) (by rw [hd]; rfl) J
      · have hodd : x % 2 = 1 ∨ y % 2 = 1 := by omega
        clear g3 gx gy; refine Qy J J J (Qy J J J (Qy J J J (Qy J J J (Qy J J J (QU J J J J (Qj (hK _ _ (Qz (Xv J (Qp (Qz (Qw (Q4 ?_))))))))))))); clear hK K
        refine Xj (α := Nat × Nat) (fun s => s.1 ≤ a ∧ s.2 ≤ b ∧ (s.1 % 2 = 1 ∨ s.2 % 2 = 1) ∧ u * Nat.gcd s.1 s.2 = Nat.gcd a b)
          (fun s => [(0, .ct (natC s.1)), (1, .ct (natC s.2)), (5, .ct (natC u))]) (fun _ => []) (fun s => s.1 + s.2) (x, y) ⟨hxa, hyb, hodd, hg⟩ (by exact QX J ⟨rfl, rfl, rfl, trivial⟩) ?_
        clear hodd hg hxa hyb hua px py lx ly hx hy
        rintro ⟨p, q⟩ ⟨hpa, hqb, hodd, hg⟩
        dsimp only at hpa hqb hodd hg ⊢; have lp : (limbs p).length ≤ 10000 := Nat.le_trans (Xa hpa) la; have lq : (limbs q).length ≤ 10000 := Nat.le_trans (Xa hqb) lb
        have done : p = 0 ∨ q = 0 → natC (Nat.gcd a b) = natC (u * (p + q)) := by
          rintro (h | h)
          · subst h; rw [← hg]; simp
          · subst h; rw [← hg]; simp
        have lpq : (limbs (p + q)).length ≤ 10001 := by
          have h1 := X9 lp; have h2 := X9 lq; exact len_add h1 h2
        refine Qw (Qw (Qq fun K hK => ?_)); refine Qx J J J (Qd J J sNat.und (List.length_map ..) J (Qk igtr J J J J (Qx J J J (Q6 40 J (fun g5 => ?_) (fun g5 => ?_)))))
        · refine Qx J J J (Qd J J sNat.und (List.length_map ..) J (Qk igtr J J J J (QZ J J J J (Qj (hK _ _ (Qz ?_)))))); clear hK K; refine Q2 J (fun g6 => ?_) (fun g6 => ?_)
          · have hp0 : p ≠ 0 := limbs_len_pos.mp (by omega); have hq0 : q ≠ 0 := limbs_len_pos.mp (by omega); have gp := limbs_get0 hp0; have gq := limbs_get0 hq0; clear done; refine Q1 (Qz (Q4 (Q4 (Qw (Qq fun K hK => ?_))))); refine Qx J J J (Ql J J J sNat (by omega) (X3 (by omega) (by omega)) J ?_)
            refine XQ J J J lInt J ?_
            rw [h00, gp]
            refine Qk (irem (by omega) (by omega)) J J J J ?_
            refine Qk ieql J J J J (Qv J J J (Qj (hK _ _ (Qz ?_)))); clear hK K; refine Q2 J (fun g7 => ?_) (fun g7 => ?_)
            · have q1 := gcd_half (x := p) (y := q) (by omega) (by omega); refine Qq (fun K hK => ?_); refine Qx J J J (QW gorhalf (rhalf_ok p (by omega)) J J J J ?_); refine Qv J J J (Qj (hK _ _ (Qb (Qb (Q3 ?_))))); clear hK K; refine Q9 (p / 2, q) (by dsimp only; omega) ⟨by dsimp only; omega, hqb, by dsimp only; omega, by dsimp only; rw [q1]; exact hg⟩ (by exact QX J ⟨rfl, rfl, rfl, trivial⟩)
            · refine Qw (Qq fun K hK => ?_); refine Qx J J J (Ql J J J sNat (by omega) (X3 (by omega) (by omega)) J ?_)
              refine XQ J J J lInt J ?_
              rw [h00, gq]
              refine Qk (irem (by omega) (by omega)) J J J J ?_
              refine Qk ieql J J J J (Qv J J J (Qj (hK _ _ (Qz ?_)))); clear hK K; refine Q2 J (fun g8 => ?_) (fun g8 => ?_)
              · have q1 := gcd_half (x := q) (y := p) (by omega) (by omega); refine Qq (fun K hK => ?_); refine Qx J J J (QW gorhalf (rhalf_ok q (by omega)) J J J J ?_); refine Qv J J J (Qj (hK _ _ (Qb (Qb (Q3 ?_))))); clear hK K; refine Q9 (p, q / 2) (by dsimp only; omega) ⟨hpa, by dsimp only; omega, by dsimp only; omega, by dsimp only; rw [Nat.gcd_comm, q1, Nat.gcd_comm]; exact hg⟩ (by exact QX J ⟨rfl, rfl, rfl, trivial⟩)
              · refine Qw (Qq fun K hK => ?_); refine Qx J J J (Qx J J J (QW gorCompare (rCompare_ok p q (by omega) (by omega)) J J J J ?_)); refine Qk igeq J J J J (Qv J J J (Qj (hK _ _ (Qz ?_)))); clear hK K; refine Q2 J (fun g9 => ?_) (fun g9 => ?_)
                · have hle : q ≤ p := by have := cmpI_neg (a := p) (b := q); omega
                  have q1 := gcd_less hle; refine Qq (fun K hK => ?_); refine Qx J J J (Qx J J J (QW gorLess (rLess_ok p q hle (by omega)) J J J J ?_)); refine Qv J J J (Qj (hK _ _ (Qb (Qb (Q3 ?_))))); clear hK K; refine Q9 (p - q, q) (by dsimp only; omega) ⟨by dsimp only; omega, hqb, by dsimp only; omega, by dsimp only; rw [q1]; exact hg⟩ (by exact QX J ⟨rfl, rfl, rfl, trivial⟩)
                · have hle : p ≤ q := by have := cmpI_neg (a := p) (b := q); omega
                  have q1 := gcd_less hle; refine Qq (fun K hK => ?_); refine Qx J J J (Qx J J J (QW gorLess (rLess_ok q p hle (by omega)) J J J J ?_)); refine Qv J J J (Qj (hK _ _ (Qb (Qb (Q3 ?_))))); clear hK K; refine Q9 (p, q - p) (by dsimp only; omega) ⟨hpa, by dsimp only; omega, by dsimp only; omega, by dsimp only; rw [Nat.gcd_comm, q1, Nat.gcd_comm]; exact hg⟩ (by exact QX J ⟨rfl, rfl, rfl, trivial⟩)
          · have hd := done (.inr (Zs (List.eq_nil_of_length_eq_zero (by omega)))); refine Qp (Qz (Qw (Qq fun K hK => ?_))); refine Qx J J J (Qx J J J (Qx J J J (QW gorPlus (rPlus_ok p q (by omega) (by omega)) J J J J ?_)))
            refine QW gorTimes (rTimes_ok u (p + q) (by omega)) J J J J ?_
            refine Qv J J J (Qj (hK _ _ (Qz (Q0 ?_)))); clear hK K; refine QK [_] rfl (Qu J QQ) (by rw [hd]; rfl) J
        · have hd := done (.inl (Zs (List.eq_nil_of_length_eq_zero (by omega)))); refine Qy J J J (Qy J J J (Qy J J J (QU J J J J (Qj (hK _ _ (Qz (Xv J (Qp (Qz (Qw ?_)))))))))); clear hK K; refine Qq (fun K hK => ?_); refine Qx J J J (Qx J J J (Qx J J J (QW gorPlus (rPlus_ok p q (by omega) (by omega)) J J J J ?_)))
          refine QW gorTimes (rTimes_ok u (p + q) (by omega)) J J J J ?_
          refine Qv J J J (Qj (hK _ _ (Qz (Q0 ?_)))); clear hK K; refine QK [_] rfl (Qu J QQ) (by rw [hd]; rfl) J
theorem gorGcd : InGo Tryz.prog 97 := InGo.of Tryz.func97 (by kernel_rfl) (by kernel_rfl)
theorem rmagnitude_ok (n : Int) (h1 : -9223372036854775808 ≤ n) (h2 : n ≤ 9223372036854775807) : Ok Tryz.prog 53 [intC n] (natC n.natAbs) := by
  refine Ok.enter Tryz.func53 rfl _ Tryz.ntmps53 rfl ?_
  intro S w
  (refine Qw (Qq fun K hK => ?_); refine Qv rfl rfl rfl ?_; refine Qj (hK _ _ (Qz (Qw (Qw ?_)))); clear hK K; refine Qq (fun K hK => ?_); refine Qx rfl rfl rfl ?_; refine Qk ilss rfl rfl rfl rfl ?_; refine Qj (hK _ _ (Qz ?_)); clear hK K)
  refine Q2 rfl (fun h => ?_) (fun h => ?_)
  · (refine Qw (Qq fun K hK => ?_); refine Qx rfl rfl rfl ?_; refine Qk (iadd (by omega) (by omega)) rfl rfl rfl rfl ?_)
    refine Ops.ineg rfl rfl (by omega) (by omega) rfl ?_
    refine Yx rfl rfl (by with_reducible exact uI64) (by with_reducible exact uU64) (wrap_u (by omega) (by omega)) rfl ?_
    refine Qk (uadd (by omega) (by omega)) rfl rfl rfl rfl ?_
    rw [show -(n + 1) + 1 = (n.natAbs : Int) by omega]
    refine QW gorWord (rWord_ok n.natAbs (by omega)) rfl rfl rfl rfl ?_
    (refine Qv rfl rfl rfl ?_; refine Qj (hK _ _ (Qz (Q0 (QY ?_)))); clear hK K)
    refine QK [_] rfl (Qu rfl QQ) rfl rfl
  · (refine Q1 (Qz (Qw (Qq fun K hK => ?_))); refine Qx rfl rfl rfl ?_)
    refine Yx rfl rfl (by with_reducible exact uI64) (by with_reducible exact uU64) (wrap_u (by omega) (by omega)) rfl ?_
    rw [show n = (n.natAbs : Int) by omega]
    refine QW gorWord (rWord_ok n.natAbs (by omega)) rfl rfl rfl rfl ?_
    (refine Qv rfl rfl rfl ?_; refine Qj (hK _ _ (Qz (Q0 ?_))); clear hK K)
    refine QK [_] rfl (Qu rfl QQ) rfl rfl
theorem gormagnitude : InGo Tryz.prog 53 := InGo.of Tryz.func53 (by kernel_rfl) (by kernel_rfl)
set_option maxHeartbeats 2000000 in
theorem rreduced_ok (neg : Bool) (a b : Nat) (h0 : 0 < b) (la : (limbs a).length ≤ 10000) (lb : (limbs b).length ≤ 10000) : Ok Tryz.prog 52 [boolC neg, natC a, natC b] (fracC (redF neg a b)) := by
  have hg0 : 0 < Nat.gcd a b := Nat.gcd_pos_of_pos_right _ h0
  have hg1 : Nat.gcd a b ≤ b := Nat.gcd_le_right _ h0
  have lg : (limbs (Nat.gcd a b)).length ≤ 10000 := Nat.le_trans (Xa hg1) lb
  have h1 := rGcd_ok a b la lb
  have h2 := rSplit_ok a _ hg0 la lg
  have h3 := rSplit_ok b _ hg0 lb lg
  have e0 : a ≠ 0 → redF neg a b = ⟨neg, a / Nat.gcd a b, b / Nat.gcd a b⟩ := fun ha => by
    unfold redF
    have : a / Nat.gcd a b ≠ 0 := by
      have := Nat.div_pos (Nat.gcd_le_left b (Nat.pos_of_ne_zero ha)) hg0
      omega
    simp [this]
  have e1 : a = 0 → redF neg a b = ⟨false, 0, 1⟩ := fun ha => by
    subst ha; unfold redF; simp [Nat.div_self h0]
  have e11 : natC 1 = .fr (sliceT 1 [[intC 1]]) := by show intsC (limbs 1) = _; rw [Z1 (by decide) (by decide)]; rfl
  generalize Nat.gcd a b = g at *
  refine Ok.enter Tryz.func52 rfl _ Tryz.ntmps52 rfl ?_
  intro S w
  (refine Qw (Qq fun K hK => ?_); refine Qg 0 rfl rfl (by with_reducible exact zvFrac) rfl rfl rfl ?_; refine Qj (hK _ _ (Qz (Qw (Qw ?_)))); clear hK K; refine Qq (fun K hK => ?_); refine Qx rfl rfl rfl ?_; refine Qd rfl rfl (by with_reducible exact sNat.und) (List.length_map ..) rfl ?_; refine Qk ieql rfl rfl rfl rfl ?_; refine Qj (hK _ _ (Qz ?_)); clear hK K)
  refine Q2 rfl (fun h => ?_) (fun h => ?_)
  · have ha : a = 0 := Zs (List.eq_nil_of_length_eq_zero (by omega))
    have e2 := e1 ha
    (refine Qw (Qq fun K hK => ?_))
    refine Zq rfl rfl (by with_reducible exact sNat) rfl rfl rfl ?_
    rw [← e11]
    refine Qs rfl (by with_reducible exact bFrac) rfl (.one rfl rfl rfl rfl .nil) rfl ?_
    (refine Qc 3 rfl rfl rfl rfl rfl (by with_reducible exact szFrac) rfl rfl ?_; refine Qj (hK _ _ (Qz (Q0 (QY ?_)))); clear hK K)
    refine QK [_] rfl (XX (w_agg (ds := [boolC false, intsC [], natC 1]) (by exact ⟨w_same, Zx, w_same, trivial⟩)) (Qi (n := 3) rfl rfl (by with_reducible exact Zc) rfl QQ)) (by rw [e2, ← natC_zero]; rfl) rfl
  · have ha : a ≠ 0 := fun ha => h (by rw [ha, limbs_zero]; rfl)
    have e2 := e0 ha
    (refine Q1 (Qz (Qw (Qq fun K hK => ?_))); refine Qx rfl rfl rfl ?_; refine Qx rfl rfl rfl ?_)
    refine QW gorGcd h1 rfl rfl rfl rfl ?_
    (refine Qv rfl rfl rfl ?_; refine Qj (hK _ _ (Qz (Qw ?_))); clear hK K; refine Qq (fun K hK => ?_); refine Qx rfl rfl rfl ?_; refine Qx rfl rfl rfl ?_)
    refine QW gorSplit h2 rfl rfl rfl rfl ?_
    (refine Qx rfl rfl rfl ?_; refine Qf rfl rfl rfl rfl ?_; refine Qf rfl rfl rfl rfl ?_; refine Qv rfl rfl rfl ?_; refine Qv rfl rfl rfl ?_; refine Qj (hK _ _ (Qz (Qw ?_))); clear hK K; refine Qq (fun K hK => ?_); refine Qx rfl rfl rfl ?_; refine Qx rfl rfl rfl ?_)
    refine QW gorSplit h3 rfl rfl rfl rfl ?_
    (refine Qx rfl rfl rfl ?_; refine Qf rfl rfl rfl rfl ?_; refine Qf rfl rfl rfl rfl ?_; refine Qv rfl rfl rfl ?_; refine Qv rfl rfl rfl ?_; refine Qj (hK _ _ (Qz (Qw ?_))); clear hK K; refine Qq (fun K hK => ?_); refine Qx rfl rfl rfl ?_; refine Qx rfl rfl rfl ?_; refine Qx rfl rfl rfl ?_)
    refine Qs rfl (by with_reducible exact bFrac) rfl (.one rfl rfl rfl rfl (.one rfl rfl rfl rfl (.one rfl rfl rfl rfl .nil))) rfl ?_
    (refine Qc 3 rfl rfl rfl rfl rfl (by with_reducible exact szFrac) rfl rfl ?_; refine Qj (hK _ _ (Qz (Q0 ?_))); clear hK K)
    refine QK [_] rfl (Qi (n := 3) rfl rfl (by with_reducible exact Zc) rfl QQ) (by rw [e2]; rfl) rfl
theorem gorreduced : InGo Tryz.prog 52 := InGo.of Tryz.func52 (by kernel_rfl) (by kernel_rfl)
set_option maxHeartbeats 2000000 in
theorem rFrom_ok (n d : Int) (h1 : -9223372036854775808 ≤ n) (h2 : n ≤ 9223372036854775807) (h3 : -9223372036854775808 ≤ d) (h4 : d ≤ 9223372036854775807) (h0 : d ≠ 0) : Ok Tryz.prog 18 [intC n, intC d] (.fr (tupT [ratC (Rat.divInt n d), intC 0])) := by
  have hl : (limbs n.natAbs).length ≤ 3 := XJ (k := 3) (by omega); have hl2 : (limbs d.natAbs).length ≤ 3 := XJ (k := 3) (by omega); rw [show ratC (Rat.divInt n d) = fracC (redF (decide (n < 0) != decide (d < 0)) n.natAbs d.natAbs) from by rw [from_redF n d h0]]
  refine Ok.enter Tryz.func18 J _ Tryz.ntmps18 J ?_
  intro S w; refine Qw (Qq fun K hK => ?_); refine Qg 0 J J zvFrac J J J (Qv J J J (Qj (hK _ _ (Qz (Qw (Qw ?_)))))); clear hK K; refine Qq (fun K hK => ?_); refine Qx J J J (Qk ieql J J J J (Qj (hK _ _ (Qz ?_)))); clear hK K; refine Q2 J (fun h => absurd h h0) (fun h => ?_); refine Q1 (Qz (Qw (Qq fun K hK => ?_))); refine Qx J J J (Qk ilss J J J J (Qx J J J (Qk ilss J J J J (Ops.bne J J J uBool J ?_)))); rw [dne]; refine Qx J J J (QW gormagnitude (rmagnitude_ok n h1 h2) J J J J (Qx J J J (QW gormagnitude (rmagnitude_ok d h3 h4) J J J J (QW gorreduced (rreduced_ok _ n.natAbs d.natAbs (by omega) (by omega) (by omega)) J J J J ?_)))); refine Qc 3 J J J J J szFrac J J (Qv J J J (Qj (hK _ _ (Qz (Q0 ?_))))); clear hK K; refine QK [_, _] rfl (Qi (n := 3) J J Zc J (Qu J QQ)) J J
theorem gorFrom : InGo Tryz.prog 18 := InGo.of Tryz.func18 (by kernel_rfl) (by kernel_rfl)
def oppF (f : Fr) : Fr := ⟨!f.neg && decide (f.num ≠ 0), f.num, f.den⟩
end Go.Proofs.YtlkdkbdgnjcopaaGreat
namespace Go.Own
end Go.Own
namespace Go.Proofs.YtlkdkbdgnjcopaaGreat
open Go.Own Go.Limbs
attribute [local irreducible] St Ops Go.Own.Fin Ok
def cmpQ (p q : Rat) : Int := (p.num * q.den - q.num * p.den).sign
end Go.Proofs.YtlkdkbdgnjcopaaGreat
namespace Go.Proofs.YtlkdkbdgnjcopaaGreat
open Go.Own Go.Limbs
theorem chk_fine {x : List Rs} (hok : ∀ r ∈ x, okR r = true) (hpw : pwB x = true) (hl : (x.length : Int) ≤ 512) : chkF x = 0 := by
  have hpw := pw_all hpw
  have h1 := Zn cmpR (x.filter okR)
  have h2 := List.length_filter_le okR x
  unfold chkF
  rw [if_neg (by rw [List.any_eq_true]; rintro ⟨r, hr, h⟩; rw [hok r hr] at h; cases h), if_neg (by omega), if_pos (cons_all fun a ha b hb => hpw a ha b hb)]
structure CnOk (l : List Rs) (n : Int) (c : Cn) : Prop where
  se : 1 ≤ c.se ∧ c.se ≤ l.length
  hi : 0 ≤ c.hi ∧ c.hi ≤ c.se
  lo : c.lo = max 0 (c.hi - n)
  cnt : ∀ b, 0 ≤ b → b ≤ 1048576 → cntF l c.wr b = (⟨c.wr, c.se, max 0 (c.hi - b), c.hi⟩, 0)
  crs : crO l c.wr = ((crsF l c.wr true).map idOf, (crsF l c.wr false).map idOf, 0)
  len : ((crsF l c.wr true).length : Int) + (crsF l c.wr false).length = c.se ∧ ((crsF l c.wr false).length : Int) = c.hi
theorem filter_two {α : Type} (p : α → Bool) (q : α → Bool) : ∀ l : List α, (l.filter fun r => p r && (q r == true)).length + (l.filter fun r => p r && (q r == false)).length = (l.filter p).length
  | [] => rfl
  | a :: l => by
    have ih := filter_two p q l
    rw [List.filter_cons, List.filter_cons, List.filter_cons]
    cases hp : p a <;> cases hq : q a <;> simp only [show ((true : Bool) == true) = true from rfl, show ((false : Bool) == true) = false from rfl, show ((true : Bool) == false) = false from rfl, show ((false : Bool) == false) = true from rfl, Bool.and_self, Bool.and_true, Bool.and_false, Bool.false_and, if_true, Bool.false_eq_true, if_false, List.length_cons] <;> omega
theorem cnOf_ok {l : List Rs} {n : Int} (hc : chkF l = 0) (hn : 0 ≤ n ∧ n ≤ 1048576) {c : Cn} (h : c ∈ (alO l n).1) : CnOk l n c := by
  have e : (alO l n).1 = (sd cmpW ((tickF (wayF l) (sd cmpR (l.filter okR))).map (·.1))).map (cnOf (tickF (wayF l) (sd cmpR (l.filter okR))) n) := by
    unfold alO; rw [if_neg (by omega), if_neg (fun h => h hc)]
  rw [e] at h
  obtain ⟨w, hw, rfl⟩ := List.mem_map.1 h
  have hw := ((Zt ordW _).2 w).1 hw
  rw [← look1_some] at hw
  obtain ⟨r, hr, hrw⟩ := ((tickF_some (wayF l) w _ []).1 hw).resolve_left (by simp [look1])
  have hk : (look1 (tickF (wayF l) (sd cmpR (l.filter okR))) w).getD (0, 0) = (0 + (((sd cmpR (l.filter okR)).filter fun r => decide (w ∈ wayF l r)).length : Int), 0 + (((sd cmpR (l.filter okR)).filter fun r => decide (w ∈ wayF l r) && (r.an == false)).length : Int)) := tickF_look (wayF l) w _ []
  have h2 : (crsF l w true).length + (crsF l w false).length = ((sd cmpR (l.filter okR)).filter fun r => decide (w ∈ wayF l r)).length := filter_two _ _ _
  have h3 : (crsF l w false).length = ((sd cmpR (l.filter okR)).filter fun r => decide (w ∈ wayF l r) && (r.an == false)).length := rfl
  have h4 : 0 < ((sd cmpR (l.filter okR)).filter fun r => decide (w ∈ wayF l r)).length := List.length_pos_of_mem (List.mem_filter.2 ⟨hr, decide_eq_true hrw⟩)
  have h5 := List.length_filter_le (fun r => decide (w ∈ wayF l r)) (sd cmpR (l.filter okR))
  have h6 := Zn cmpR (l.filter okR)
  have h7 := List.length_filter_le okR l
  rw [← h2, ← h3, Int.zero_add, Int.zero_add] at hk
  rw [← h2] at h4 h5
  clear h2 h3
  have e2 : cnOf (tickF (wayF l) (sd cmpR (l.filter okR))) n w = ⟨w, ((crsF l w true).length : Int) + (crsF l w false).length, max 0 ((crsF l w false).length - n), (crsF l w false).length⟩ := by
    unfold cnOf; rw [hk]; simp
  rw [e2]
  refine ⟨⟨by dsimp only; omega, by dsimp only; omega⟩, ⟨by dsimp only; omega, by dsimp only; omega⟩, rfl, fun b h0 h1 => ?_, ?_, ⟨rfl, rfl⟩⟩
  · dsimp only
    unfold cntF
    rw [if_neg (by omega), if_neg (fun h => h hc), if_neg (by omega)]
  · dsimp only
    unfold crO
    rw [if_neg (fun h => h hc), if_neg (by omega)]
theorem alO_snd {l : List Rs} {n : Int} (hc : chkF l = 0) (hn : 0 ≤ n ∧ n ≤ 1048576) : (alO l n).2 = 0 := by
  unfold alO; rw [if_neg (by omega), if_neg (fun h => h hc)]
theorem alO_len (l : List Rs) (n : Int) : (alO l n).1.length ≤ l.length * 256 := by
  unfold alO
  split
  · exact Nat.zero_le _
  · split
    · exact Nat.zero_le _
    · dsimp only
      rw [List.length_map]
      refine Nat.le_trans (Zn _ _) ?_
      rw [List.length_map]
      have h1 := tickF_len (wayF l) 256 (wayF_len l) (sd cmpR (l.filter okR)) []
      have h2 := Zn cmpR (l.filter okR)
      have h3 := List.length_filter_le okR l
      refine Nat.le_trans h1 ?_
      rw [List.length_nil, Nat.zero_add]
      exact Nat.mul_le_mul_right _ (Nat.le_trans h2 h3)
attribute [local irreducible] Go.Own.Fin Ok OkB OkF OkL OkN OkT Ops St
theorem goCompact_Wr : InGo Tryz.prog 78 := InGo.of Tryz.func78 (by kernel_rfl) (by kernel_rfl)
set_option maxHeartbeats 4000000 in
theorem Compact_Wr_ok (l : List Wr) (hl : l.length ≤ 1000000000) : OkT Tryz.prog 78 37 2 (wrs l) [] (wrs (dd l)) := by
  refine OkT.enter Tryz.func78 rfl _ Tryz.ntmps78 rfl ?_
  intro S w h0
  (refine Qw (Qq fun K hK => ?_); refine Qv rfl rfl rfl ?_; refine Qj (hK _ _ (Qz (Qw (Qw ?_)))); clear hK K; refine Qq (fun K hK => ?_); refine Qx rfl rfl rfl ?_)
  refine Yj l.length rfl rfl rfl (by decide) (Yw l) (by with_reducible exact sWrs.und) rfl ?_
  (refine Qk ilss rfl rfl rfl rfl ?_; refine Qj (hK _ _ (Qz ?_)); clear hK K)
  refine Q2 rfl (fun h => ?_) (fun h => ?_)
  · rw [dd_small (l := l) (by omega)]
    (refine Qw (Qq fun K hK => ?_); refine Qx rfl rfl rfl ?_; refine Qv rfl rfl rfl ?_; refine Qj (hK _ _ (Qz (Q0 (QY ?_)))); clear hK K)
    refine YV rfl rfl rfl
  (refine Q1 (Qz (Qw (Qw (Qq fun K hK => ?_)))); refine Qv rfl rfl rfl ?_; refine Qj (hK _ _ (Qz (Q4 ?_))); clear hK K)
  refine Xj (α := Nat) (fun i => i + 1 ≤ l.length ∧ dd (l.take (i + 1)) = l.take (i + 1))
    (fun i => [(0, .own 0), (3, .ct (intC (i + 1)))]) (fun _ => [(0, .row 37 2 (wrs l))]) (fun i => l.length - i) 0 ⟨by omega, dd_small (by rw [List.length_take]; omega)⟩ (by exact QX rfl ⟨rfl, rfl, trivial⟩) ?_
  rintro i ⟨hi, hd⟩
  try dsimp only at hi hd
  try dsimp only
  (refine Qw (Qw (Qq fun K hK => ?_)); refine Qx rfl rfl rfl ?_; refine Qx rfl rfl rfl ?_)
  refine Yj l.length rfl rfl rfl (by decide) (Yw l) (by with_reducible exact sWrs.und) rfl ?_
  (refine Qk ilss rfl rfl rfl rfl ?_; refine Qj (hK _ _ (Qz ?_)); clear hK K)
  refine Q2 rfl (fun h => ?_) (fun h => ?_)
  rotate_left
  · have e : dd l = l := by
      have := hd
      rw [List.take_of_length_le (by omega)] at this
      exact this
    rw [e]
    (refine Qp (Qz (Qw (Qq fun K hK => ?_))); refine Qx rfl rfl rfl ?_; refine Qv rfl rfl rfl ?_; refine Qj (hK _ _ (Qz (Q0 ?_))); clear hK K)
    refine YV rfl rfl rfl
  (refine Q1 (Qz (Qw (Q4 (Qw ?_)))))
  refine Xu (by with_reducible exact mixed) 10 (.p 0 (.p 1 (.p 2 (.p 4 (.p 5 (.p 6 (.p 7 (.f 3 (.f 8 (.p 9 .done)))))))))) (by kernel_rfl) (fun K hK => ?_)
  (refine Qx rfl rfl rfl ?_; refine Qx rfl rfl rfl ?_)
  refine Zv l.length rfl rfl rfl (Yw l) rfl (by with_reducible exact sWrs) (by omega) (by omega) rfl ?_
  (refine Qx rfl rfl rfl ?_; refine Qx rfl rfl rfl ?_; refine Qk (isub (by omega) (by omega)) rfl rfl rfl rfl ?_)
  refine Zv l.length rfl rfl rfl (Yw l) rfl (by with_reducible exact sWrs) (by omega) (by omega) rfl ?_
  skip
  refine ldE wrCs wr0 wr_len rfl rfl rfl rfl rfl (by omega) (by with_reducible exact ZK) rfl ?_
  refine ldE wrCs wr0 wr_len rfl rfl rfl rfl rfl (by omega) (by with_reducible exact ZK) rfl ?_
  rw [show ((i : Int) + 1).toNat = i + 1 by omega, show ((i : Int) + 1 - 1).toNat = i by omega]
  generalize hx : l.getD i wr0 = x
  generalize hy : l.getD (i + 1) wr0 = y
  refine eqWr y x rfl rfl rfl rfl rfl ?_
  (refine Qj (hK _ _ (Qz ?_)); clear hK K)
  have hs := dd_step (l := l) (z := wr0) (p := i + 1) (by omega) (by omega)
  rw [show i + 1 - 1 = i by omega, hx, hy] at hs
  refine Q2 rfl (fun he => ?_) (fun he => ?_)
  rotate_left
  · (refine Q1 (Qz (Qq fun K hK => ?_)); refine Qx rfl rfl rfl ?_; refine Qk (iadd (by omega) (by omega)) rfl rfl rfl rfl ?_; refine Qv rfl rfl rfl ?_; refine Qj (hK _ _ (Q3 ?_)); clear hK K)
    refine Q9 (i + 1) (by omega) ⟨by omega, ?_⟩ (by exact QX rfl ⟨rfl, by simp only [Int.natCast_add]; rfl, trivial⟩)
    rw [hs, if_neg he, hd, List.take_add_one (i := i + 1), List.getElem?_eq_getElem (by omega), ← hy, List.getD_eq_getElem?_getD, List.getElem?_eq_getElem (by omega)]; rfl
  rw [if_pos he, hd] at hs
  refine St.nameS 0 0 l.length rfl rfl (Yw l) (by omega) (by decide) (fun gb c hc1 hc2 => ?_)
  (refine Qw (Qq fun K hK => ?_); refine Qx rfl rfl rfl ?_; refine Qx rfl rfl rfl ?_)
  refine Ops.cutKl (i + 1) rfl rfl rfl (by omega) sWrs (by omega) rfl ?_
  rw [if_neg (show ¬ c = i + 1 by omega), Nat.zero_add]
  (refine Qv rfl rfl rfl ?_; refine Qj (hK _ _ (Qz (Qw (Qw ?_)))); clear hK K; refine Qq (fun K hK => ?_); refine Qv rfl rfl rfl ?_; refine Qj (hK _ _ (Qz (Q4 ?_))); clear hK K)
  refine Xj (α := Nat) (fun j => i + 2 + j ≤ l.length ∧ (dd (l.take (i + 2 + j))).length < i + 2 + j)
    (fun j => [(0, .ct (.ex (kh gb 0 l.length c))), (3, .ct (intC (dd (l.take (i + 2 + j))).length)), (4, .ct (.ex (kh gb ((i + 1) * 2) (l.length - (i + 1)) (c - (i + 1))))), (5, .ct (intC (j + 1)))])
    (fun j => [(0, .rowx (kh gb 0 l.length c) 37 2 (wrs (dd (l.take (i + 2 + j)) ++ l.drop (dd (l.take (i + 2 + j))).length)))]) (fun j => l.length - j) 0
    ⟨by omega, by rw [Nat.add_zero, hs, List.length_take]; omega⟩ (by
      rw [Nat.add_zero, hs, List.length_take, Nat.min_eq_left hi, List.take_append_drop]
      exact QX rfl ⟨rfl, rfl, rfl, rfl, trivial⟩) ?_
  clear hs
  rintro j ⟨hj, hD⟩
  try dsimp only at hj hD
  try dsimp only
  have hs := dd_step (l := l) (z := wr0) (p := i + 2 + j) (by omega)
  generalize hDD : dd (l.take (i + 2 + j)) = D at hs hD ⊢
  have hrl : (D ++ l.drop D.length).length = l.length := by rw [List.length_append, List.length_drop]; omega
  have hat : ∀ q, D.length ≤ q → (D ++ l.drop D.length).getD q wr0 = l.getD q wr0 := fun q hq => row_at D l q wr0 hq
  (refine Qw (Qw (Qq fun K hK => ?_)); refine Qx rfl rfl rfl ?_; refine Qx rfl rfl rfl ?_)
  refine Ops.lenKv rfl rfl sWrs.und rfl ?_
  (refine Qk ilss rfl rfl rfl rfl ?_; refine Qj (hK _ _ (Qz ?_)); clear hK K)
  refine Q2 rfl (fun h2 => ?_) (fun h2 => ?_)
  · (refine Q1 (Qz (Qw (Q4 (Qw ?_)))))
    refine Xu (by with_reducible exact mixed) 10 (.p 0 (.p 1 (.p 2 (.p 4 (.p 5 (.p 6 (.p 7 (.f 3 (.f 8 (.p 9 .done)))))))))) (by kernel_rfl) (fun K hK => ?_)
    (refine Qx rfl rfl rfl ?_; refine Qx rfl rfl rfl ?_)
    refine Z0 0 (i + 1) rfl rfl rfl rfl sWrs (by omega) (by omega) rfl ?_
    (refine Qx rfl rfl rfl ?_; refine Qx rfl rfl rfl ?_; refine Qk (isub (by omega) (by omega)) rfl rfl rfl rfl ?_)
    refine Z0 0 (i + 1) rfl rfl rfl rfl sWrs (by omega) (by omega) rfl ?_
    skip
    refine ldE wrCs wr0 wr_len rfl rfl rfl rfl rfl (by omega) (by with_reducible exact ZK) rfl ?_
    refine ldE wrCs wr0 wr_len rfl rfl rfl rfl rfl (by omega) (by with_reducible exact ZK) rfl ?_
    rw [show i + 1 + ((j : Int) + 1).toNat = i + 2 + j by omega, show i + 1 + ((j : Int) + 1 - 1).toNat = i + 2 + j - 1 by omega, hat _ (by omega), hat _ (by omega)]
    have hs := hs (by omega)
    generalize hx2 : l.getD (i + 2 + j - 1) wr0 = x2 at hs ⊢
    generalize hy2 : l.getD (i + 2 + j) wr0 = y2 at hs ⊢
    refine neWr y2 x2 rfl rfl rfl rfl rfl ?_
    (refine Qj (hK _ _ (Qz ?_)); clear hK K)
    refine Q2 rfl (fun he2 => ?_) (fun he2 => ?_)
    · rw [if_neg he2] at hs
      (refine Qw (Qq fun K hK => ?_); refine Qx rfl rfl rfl ?_; refine Qx rfl rfl rfl ?_; refine Qx rfl rfl rfl ?_; refine Qx rfl rfl rfl ?_)
      refine Z0 0 (i + 1) rfl rfl rfl rfl sWrs (by omega) (by omega) rfl ?_
      refine ldE wrCs wr0 wr_len rfl rfl rfl rfl rfl (by omega) (by with_reducible exact ZK) rfl ?_
      rw [show i + 1 + ((j : Int) + 1).toNat = i + 2 + j by omega, hat _ (by omega), hy2]
      refine Z0 0 0 rfl rfl rfl rfl sWrs (by omega) (by omega) rfl ?_
      rw [Nat.zero_add, show ((D.length : Int)).toNat = D.length by omega]
      refine stEX wrCs y2 wr_len rfl rfl rfl rfl rfl (by omega) (by with_reducible exact szWire) ?_
      rw [row_set D l y2 (by omega)]
      (refine Qj (hK _ _ (Qz ?_)); clear hK K; refine Qq (fun K hK => ?_); refine Qx rfl rfl rfl ?_; refine Qk (iadd (by omega) (by omega)) rfl rfl rfl rfl ?_; refine Qv rfl rfl rfl ?_; refine Qj (hK _ _ (Qz ?_)); clear hK K; refine Qq (fun K hK => ?_); refine Qx rfl rfl rfl ?_; refine Qk (iadd (by omega) (by omega)) rfl rfl rfl rfl ?_; refine Qv rfl rfl rfl ?_; refine Qj (hK _ _ (Q3 ?_)); clear hK K)
      refine Q9 (j + 1) (by omega) ⟨by omega, by show (dd (l.take (i + 2 + j + 1))).length < _; rw [hs, List.length_append]; show D.length + 1 < _; omega⟩ ?_
      rw [show i + 2 + (j + 1) = i + 2 + j + 1 by omega, hs, List.length_append]
      exact QX rfl ⟨rfl, by simp only [Int.natCast_add]; rfl, rfl, by simp only [Int.natCast_add]; rfl, trivial⟩
    · rw [if_pos (Decidable.not_not.1 he2)] at hs
      (refine Q1 (Qz (Qq fun K hK => ?_)); refine Qx rfl rfl rfl ?_; refine Qk (iadd (by omega) (by omega)) rfl rfl rfl rfl ?_; refine Qv rfl rfl rfl ?_; refine Qj (hK _ _ (Q3 ?_)); clear hK K)
      refine Q9 (j + 1) (by omega) ⟨by omega, by show (dd (l.take (i + 2 + j + 1))).length < _; rw [hs]; omega⟩ ?_
      rw [show i + 2 + (j + 1) = i + 2 + j + 1 by omega, hs]
      exact QX rfl ⟨rfl, rfl, rfl, by simp only [Int.natCast_add]; rfl, trivial⟩
  · have e : dd l = D := by rw [← hDD, List.take_of_length_le (by omega)]
    rw [e]
    (refine Qp (Qz (Qw (Qq fun K hK => ?_))); refine Qx rfl rfl rfl ?_; refine Qx rfl rfl rfl ?_)
    refine Ops.cutKl D.length rfl rfl rfl rfl sWrs (by omega) rfl ?_
    skip
    refine Ops.cutOff 0 D.length rfl (by show (wrs _).length = _; rw [Yw, hrl]) (by decide) (by omega) (by show (wrs _).take _ = wrs D; rw [wrs_take, List.take_left]) ?_
    refine Ops.clearK 0 rfl rfl (by split <;> omega) rfl (Yw D) (by omega) sWrs (by decide) ?_
    (refine Qj (hK _ _ (Qz (Qw ?_))); clear hK K; refine Qq (fun K hK => ?_); refine Qx rfl rfl rfl ?_; refine Qx rfl rfl rfl ?_)
    refine Ops.cutKh D.length rfl rfl rfl rfl sWrs (by omega) rfl ?_
    (refine Qv rfl rfl rfl ?_; refine Qj (hK _ _ (Qz (Q0 (Q8 (QY (QY (Q8 (QY ?_)))))))); clear hK K)
    refine Fin.link 2 0 rfl rfl ?_
    refine YV rfl rfl rfl
end Go.Proofs.YtlkdkbdgnjcopaaGreat
namespace Go.Proofs.YtlkdkbdgnjcopaaGreat
open Go.Own Go.Limbs Go.Shelf
open Go.Sort hiding Ok
attribute [local irreducible] St Ops Go.Own.Fin Ok OkB OkN OkT OkL OkF
def wsG : _root_.Fin 4294967296 → List (_root_.Fin 4294967296) → List Wr
  | _, [] => []
  | p, a :: l => (p, a) :: wsG a l
theorem wsG_len : ∀ (l : List (_root_.Fin 4294967296)) (p : _root_.Fin 4294967296), (wsG p l).length = l.length
  | [], _ => rfl
  | a :: l, p => by rw [wsG, List.length_cons, wsG_len l a, List.length_cons]
def pvA (p : List (_root_.Fin 4294967296)) (i : Nat) : _root_.Fin 4294967296 := if i = 0 then 0 else p.getD (i - 1) 0
theorem wsG_snoc : ∀ (l : List (_root_.Fin 4294967296)) (q a : _root_.Fin 4294967296), wsG q (l ++ [a]) = wsG q l ++ [(if l = [] then q else l.getD (l.length - 1) 0, a)]
  | [], q, a => rfl
  | b :: l, q, a => by
    show (q, b) :: wsG b (l ++ [a]) = _
    rw [wsG_snoc l b a]
    cases l with
    | nil => rfl
    | cons c l =>
      show _ = (q, b) :: (wsG b (c :: l) ++ [(if b :: c :: l = [] then q else (b :: c :: l).getD ((b :: c :: l).length - 1) 0, a)])
      rw [if_neg (by simp), if_neg (by simp)]
      rfl
def wsO (p : List (_root_.Fin 4294967296)) : List Wr × Bool := if p.all (fun a => decide (a ≠ 0)) then (wsG 0 p, true) else ([], false)
theorem gowires : InGo Tryz.prog 116 := InGo.of Tryz.func116 rfl (by decide)
set_option maxHeartbeats 8000000 in
theorem wires_ok (p : List (_root_.Fin 4294967296)) (hl : p.length ≤ 1000000) : Ok Tryz.prog 116 [adsC p] (.fr (tupT [wrsC (wsO p).1, boolC (wsO p).2])) := by
  refine Ok.enter Tryz.func116 rfl _ Tryz.ntmps116 rfl ?_
  intro S w
  (refine Qw (Qq fun K hK => ?_); refine Qv rfl rfl rfl ?_; refine Qv rfl rfl rfl ?_; refine Qj (hK _ _ (Qz (Qw ?_))); clear hK K; refine Qq (fun K hK => ?_); refine Qv rfl rfl rfl ?_; refine Qj (hK _ _ (Qz (Qw ?_))); clear hK K; refine Qq (fun K hK => ?_); refine Qv rfl rfl rfl ?_; refine Qj (hK _ _ (Qz (Qw (Qw ?_)))); clear hK K; refine Qq (fun K hK => ?_); refine Qx rfl rfl rfl ?_; refine Qd rfl rfl (by with_reducible first | exact sTks.und | exact sWrs.und | exact sIks.und | exact sAdrs.und) (List.length_map ..) rfl ?_; refine Qx rfl rfl rfl ?_; refine Qj (hK _ _ (Qz (Q4 ?_))); clear hK K)
  refine Xe 4 0 37 2 rfl rfl rfl ?_
  refine Xj (α := Nat) (fun i => i ≤ p.length ∧ ∀ a ∈ p.take i, a ≠ 0)
    (fun i => [(4, .own 0), (5, .ct (adrF (pvA p i))), (8, .ct (adsC p)), (9, .ct (intC p.length)), (10, .ct (intC i))])
    (fun i => [(0, .row 37 2 (wrs (wsG 0 (p.take i))))]) (fun i => p.length - i) 0 ⟨Nat.zero_le _, by simp⟩ (by exact QX rfl ⟨rfl, rfl, rfl, rfl, rfl, trivial⟩) ?_
  intro i ⟨hi, hnz⟩
  try dsimp only at hi hnz ⊢
  (refine Qw (Qq fun K hK => ?_); refine Qk ilss rfl rfl rfl rfl ?_; refine Qj (hK _ _ (Qz (Qw ?_))); clear hK K)
  refine Q2 rfl (fun h => ?_) (fun h => ?_)
  rotate_left
  · rw [List.take_of_length_le (by omega)] at hnz ⊢
    have e : wsO p = (wsG 0 p, true) := if_pos (List.all_eq_true.2 fun a ha => decide_eq_true (hnz a ha))
    rw [e]
    (refine Qp (Qz (Qw (Qq fun K hK => ?_))); refine Qx rfl rfl rfl ?_; refine Qv rfl rfl rfl ?_; refine Qv rfl rfl rfl ?_; refine Qj (hK _ _ (Qz (Q0 ?_))); clear hK K)
    refine Z6 0 _ rfl (wrs_frozen _ _) XZ ?_
    refine QK [_, _] rfl (Qu rfl (Qu rfl QQ)) rfl rfl
  have e2 : (i : Int).toNat = i := Int.toNat_natCast i
  have hs : p.take (i + 1) = p.take i ++ [p.getD i 0] := by
    rw [List.take_add_one, List.getElem?_eq_getElem (by omega), List.getD_eq_getElem?_getD, List.getElem?_eq_getElem (by omega)]; rfl
  have hw : wsG 0 (p.take (i + 1)) = wsG 0 (p.take i) ++ [(pvA p i, p.getD i 0)] := by
    rw [hs, wsG_snoc]
    congr 2
    unfold pvA
    by_cases h0 : i = 0
    · subst h0; rfl
    · rw [if_neg (fun h => by have := congrArg List.length h; rw [List.length_take, List.length_nil] at this; omega), if_neg h0, List.length_take, Nat.min_eq_left hi, List.getD_eq_getElem?_getD, List.getElem?_take_of_lt (by omega), ← List.getD_eq_getElem?_getD]
  have hp : pvA p (i + 1) = p.getD i 0 := rfl
  have hwl : (wsG 0 (p.take i)).length = i := by rw [wsG_len, List.length_take]; omega
  have hmem : p.getD i 0 ∈ p := by rw [List.getD_eq_getElem?_getD, List.getElem?_eq_getElem (by omega)]; exact List.getElem_mem _
  (refine Q1 (Qz (Qw (Q4 (Qw (Qq fun K hK => ?_))))))
  refine Ql rfl rfl rfl (by with_reducible exact sAdrs) (by omega) (adrs_at (by omega) (by omega)) rfl ?_
  rw [e2]
  generalize p.getD i 0 = a at hs hw hp hmem
  generalize pvA p i = b at hw
  generalize wsG 0 (p.take i) = ws at hw hwl ⊢
  refine XQ rfl rfl rfl (by with_reducible exact Qa) rfl ?_
  (refine Qv rfl rfl rfl ?_; refine Qj (hK _ _ (Qz (Qw (Qw ?_)))); clear hK K; refine Qq (fun K hK => ?_); refine Qx rfl rfl rfl ?_; refine Qk ieql rfl rfl rfl rfl ?_; refine Qj (hK _ _ (Qz ?_)); clear hK K)
  refine Q2 rfl (fun h2 => ?_) (fun h2 => ?_)
  · have h2 : a = 0 := _root_.Fin.ext (by have e0 : ((0 : _root_.Fin 4294967296).val) = 0 := rfl; omega)
    have e : wsO p = ([], false) := if_neg (by rw [List.all_eq_true]; exact fun h => of_decide_eq_true (h a hmem) h2)
    rw [e]
    (refine Qw (Qq fun K hK => ?_); refine Qv rfl rfl rfl ?_; refine Qv rfl rfl rfl ?_; refine Qj (hK _ _ (Qz (Q0 (QY (Q8 (QY (QY (Q8 (QY ?_))))))))); clear hK K)
    refine QK [_, _] rfl (XX Zx (Qu rfl (Qu rfl QQ))) rfl rfl
  have h2 : a ≠ 0 := fun h => h2 (by rw [h]; rfl)
  (refine Q1 (Qz (Qw (Qq fun K hK => ?_))); refine Qx rfl rfl rfl ?_; refine Qx rfl rfl rfl ?_; refine Qx rfl rfl rfl ?_)
  refine Qs rfl (by with_reducible exact bWire) rfl (.one rfl rfl rfl rfl (.one rfl rfl rfl rfl .nil)) rfl ?_
  refine X4 (n := 2) rfl rfl (by with_reducible exact sWrs) rfl rfl (by decide) rfl ?_
  refine Qt ws.length (wrs (ws ++ [(b, a)])) rfl rfl rfl rfl (by with_reducible exact sWrs) (Yw ws) rfl (by omega) (by omega) (wrs_snoc ws (b, a)) rfl ?_
  (refine Qv rfl rfl rfl ?_; refine Qj (hK _ _ (Qz ?_)); clear hK K; refine Qq (fun K hK => ?_); refine Qx rfl rfl rfl ?_; refine Qv rfl rfl rfl ?_; refine Qj (hK _ _ (Qz ?_)); clear hK K; refine Qq (fun K hK => ?_); refine Qk (iadd (by omega) (by omega)) rfl rfl rfl rfl ?_; refine Qx rfl rfl rfl ?_; refine Qj (hK _ _ (Q3 ?_)); clear hK K)
  refine Q9 (i + 1) (by omega) ⟨by omega, fun x hx => ?_⟩ (by rw [hw, hp]; exact QX rfl ⟨rfl, rfl, rfl, rfl, by simp only [Int.natCast_add]; rfl, trivial⟩)
  rw [hs] at hx
  rcases List.mem_append.1 hx with hx | hx
  · exact hnz x hx
  · rw [List.mem_singleton] at hx; rw [hx]; exact h2
theorem goDcmp : InGo Tryz.prog 77 := InGo.of Tryz.func77 rfl (by decide)
theorem Dcmp_ok (a b : Wr) : Ok Tryz.prog 77 [wrC a, wrC b] (intC (cmpW a b)) := by
  have e0 : cmpW a b = firstN [cmp3 a.1.val b.1.val, cmp3 a.2.val b.2.val] := by
    unfold cmpW wrI
    simp only [cmpL, firstN]
  rw [e0]
  clear e0
  have h1 := cmA_ok (a.1.val : Int) (b.1.val : Int)
  have h2 := cmA_ok (a.2.val : Int) (b.2.val : Int)
  have hO := Or_ok [cmp3 a.1.val b.1.val, cmp3 a.2.val b.2.val] (by simp)
  generalize cmp3 (a.1.val : Int) (b.1.val : Int) = c1 at h1 hO ⊢
  generalize cmp3 (a.2.val : Int) (b.2.val : Int) = c2 at h2 hO ⊢
  refine Ok.enter Tryz.func77 rfl _ Tryz.ntmps77 rfl ?_
  intro S w
  (refine Qw (Qq fun K hK => ?_); refine Xk 0 rfl rfl rfl rfl rfl rfl rfl ?_; refine Xk 1 rfl rfl rfl rfl rfl rfl rfl ?_; refine Qv rfl rfl rfl ?_; refine Qj (hK _ _ (Qz (Qw ?_))); clear hK K)
  refine Xu (by with_reducible exact mixed) 13 (.p 0 (.p 2 (.p 5 (.p 7 (.f 1 (.f 3 (.f 6 (.f 8 (.m 4 (.m 9 (.m 10 (.m 11 (.p 12 .done))))))))))))) (by kernel_rfl) (fun K hK => ?_)
  (refine QV rfl rfl rfl (by with_reducible first | exact fTk0 | exact fTk1 | exact fTk2 | exact fWr0 | exact fWr1 | exact X1 | exact X0 | exact Xm | exact fStm1 | exact fCn0 | exact fCn1 | exact fCn2 | exact fCn3 | exact fCs0 | exact fCs1) rfl ?_; refine QV rfl rfl rfl (by with_reducible first | exact fTk0 | exact fTk1 | exact fTk2 | exact fWr0 | exact fWr1 | exact X1 | exact X0 | exact Xm | exact fStm1 | exact fCn0 | exact fCn1 | exact fCn2 | exact fCn3 | exact fCs0 | exact fCs1) rfl ?_; refine QV rfl rfl rfl (by with_reducible first | exact fTk0 | exact fTk1 | exact fTk2 | exact fWr0 | exact fWr1 | exact X1 | exact X0 | exact Xm | exact fStm1 | exact fCn0 | exact fCn1 | exact fCn2 | exact fCn3 | exact fCs0 | exact fCs1) rfl ?_; refine QV rfl rfl rfl (by with_reducible first | exact fTk0 | exact fTk1 | exact fTk2 | exact fWr0 | exact fWr1 | exact X1 | exact X0 | exact Xm | exact fStm1 | exact fCn0 | exact fCn1 | exact fCn2 | exact fCn3 | exact fCs0 | exact fCs1) rfl ?_; refine QJ rfl rfl rfl rfl rfl (by with_reducible first | exact lInt | exact Qa | exact Q5 | exact lRess) rfl ?_; refine QJ rfl rfl rfl rfl rfl (by with_reducible first | exact lInt | exact Qa | exact Q5 | exact lRess) rfl ?_; refine QJ rfl rfl rfl rfl rfl (by with_reducible first | exact lInt | exact Qa | exact Q5 | exact lRess) rfl ?_; refine QJ rfl rfl rfl rfl rfl (by with_reducible first | exact lInt | exact Qa | exact Q5 | exact lRess) rfl ?_)
  refine QW gocmA h1 rfl rfl rfl rfl ?_
  refine QW gocmA h2 rfl rfl rfl rfl ?_
  refine Ops.litI [c1, c2] rfl rfl (by with_reducible exact sInts) rfl ⟨rfl, rfl, rfl, rfl, trivial⟩ (by decide) rfl ?_
  refine QW goOr hO rfl rfl rfl rfl ?_
  (refine Qv rfl rfl rfl ?_; refine Qj (hK _ _ (Qz (Q0 ?_))); clear hK K)
  refine QK [_] rfl (Qu rfl QQ) rfl rfl
abbrev cmpDV : CT := .ex (.func (.func 77) #[] #[])
theorem SortD_ok (l : List Wr) (hl : l.length < 4611686018427387904) : OkL Tryz.prog 76 37 2 (wrs l) [cmpDV] unitC (wrs (l.mergeSort fun x y => !(ltOf cmpW) y x)) :=
  sortFunc_L laySortW (enc := wr2) (k := 2) (cf := cmpW) (g := 77) (by decide) Tryz.isAgg37 Tryz.sizeOf37 (fun _ => rfl) (fun x v hv => one_two x v hv)
    ordW.swo ordW.tot goDcmp Dcmp_ok 37 l hl
end Go.Proofs.YtlkdkbdgnjcopaaGreat
namespace Go.Proofs.YtlkdkbdgnjcopaaGreat
open Go.Own Go.Limbs
attribute [local irreducible] St Ops Go.Own.Fin Ok OkB OkN OkT OkL OkF OkM
abbrev Me := Rs × List Wr
def me0 : Me := (rs0, [])
abbrev meCs (x : Me) : List CT := rsCs x.1 ++ [wrsC x.2]
theorem me_len (x : Me) : (meCs x).length = 18 := rfl
abbrev mesC (l : List Me) : CT := .fr (sliceT 18 (l.map meCs))
def mes (l : List Me) : List CT := (l.map meCs).flatten
theorem mes_frozen (e : Nat) (l : List Me) : (Ent.row e 18 (mes l)).frozen (sliceT 18 (l.map meCs)) :=
  ⟨_, rfl, fun e he => by obtain ⟨m, _, rfl⟩ := List.mem_map.mp he; rfl, by decide, rfl⟩
theorem mes_at {l : List Me} {j : Int} (h0 : 0 ≤ j) (h : j < (l.length : Int)) : (l.map meCs)[j.toNat]? = some (meCs (l.getD j.toNat me0)) := by
  have : j.toNat < l.length := by omega
  simp [List.getElem?_map, List.getElem?_eq_getElem this, List.getD_eq_getElem?_getD]
theorem mes_len (l : List Me) : (mes l).length = l.length * 18 := el_len me_len l
theorem mes_snoc (l : List Me) (r : Me) : mes (l ++ [r]) = mes l ++ meCs r := by simp [mes]
abbrev zMe : Value := .agg #[.int .i64 0, .int .i64 0, .int .i64 0, .int .i64 0, .int .u32 0, .int .i64 0, .int .i64 0, .int .i64 0, .bool false, .bool false, .int .i64 0, .int .u32 0, .int .i64 0, .int .i64 0, .int .i64 0, .int .i64 0, .int .i64 0, .slice none 0 0]
theorem sMes : SlcT Tryz.prog 132 135 18 152 zMe := SlcT.of Tryz.underlying132 (by kernel_rfl) rfl (by decide)
theorem lMe : LdN Tryz.prog 135 18 := LdN.of _ Tryz.underlying135 rfl (by kernel_rfl)
theorem szMe : (Tryz.prog.info? 135).map (·.size) = some 18 := by kernel_rfl
theorem zvMe : (Tryz.prog.info? 135).map (·.zero) = some (some zMe) := by kernel_rfl
theorem bMe : bInfo Tryz.prog 135 = some (zMe, [(0, some 17), (17, some 1)]) := by kernel_rfl
theorem fMe1 : fldInfo Tryz.prog 135 1 = some (17, some 1) := by kernel_rfl
theorem eqDst : EqF Tryz.prog 167 86 [.i64, .u32, .i64] [.i64] := ⟨by kernel_rfl, by kernel_rfl, by kernel_rfl, by kernel_rfl, by kernel_rfl, by kernel_rfl, by kernel_rfl, by kernel_rfl⟩
theorem keyDst : KeyT Tryz.prog 167 stmE := eqDst.flat.key stmI (fun _ => rfl) stmI_inj
theorem lDst : LdN Tryz.prog 167 4 := LdN.of _ Tryz.underlying167 rfl (by kernel_rfl)
theorem szDst : (Tryz.prog.info? 167).map (·.size) = some 4 := by kernel_rfl
theorem zvDst : (Tryz.prog.info? 167).map (·.zero) = some (some (.agg #[.int .i64 0, .int .u32 0, .int .i64 0, .int .i64 0])) := by kernel_rfl
theorem bDst : bInfo Tryz.prog 167 = some (.agg #[.int .i64 0, .int .u32 0, .int .i64 0, .int .i64 0], [(0, some 3), (3, some 1)]) := by kernel_rfl
theorem fDst0 : fldInfo Tryz.prog 167 0 = some (0, some 3) := by kernel_rfl
theorem uMDst : Tryz.prog.underlying 165 = some (.map 167 28) := Tryz.underlying165
def paF (l : List Rs) (r : Rs) : List (_root_.Fin 4294967296) := pathF (ofF l (trOf r)) r.fl
def mesB (l : List Rs) (r : Rs) : Bool := r.an && (usR r && (decide (r.tt ≤ ((paF l r).length : Int)) && (decide ((paF l r).getD (r.tt.toNat - 1) 0 = r.fr) && (wsO ((paF l r).take r.tt.toNat)).2)))
def meF (l : List Rs) (r : Rs) : Me := (r, (wsO ((paF l r).take r.tt.toNat)).1)
def msF (l : List Rs) : List Me := ((sd cmpR (l.filter okR)).filter (mesB l)).map (meF l)
theorem gomeasures : InGo Tryz.prog 75 := InGo.of Tryz.func75 rfl (by decide)
set_option maxHeartbeats 16000000 in
theorem measures_ok (l : List Rs) (hl : l.length ≤ 10000) : Ok Tryz.prog 75 [rssC l] (mesC (msF l)) := by
  have hT := Traces_ok l hl
  have hOf := fun t => Of_ok l t hl
  have hO := Order_ok l hl
  have hU := fun r => Usable_ok r
  have hTl : (trsF l).length ≤ 10000 := by
    have h1 := Zn cmpT ((l.filter okR).map trOf)
    have h2 := List.length_filter_le okR l
    rw [List.length_map] at h1
    unfold trsF; omega
  have hol : (sd cmpR (l.filter okR)).length ≤ 10000 := by
    have := Zn cmpR (l.filter okR)
    have := List.length_filter_le okR l
    omega
  have hP := fun r => Path_ok (ofF l (trOf r)) r.fl (by
    have h1 := Zn cmpR (l.filter okR)
    have h2 := List.length_filter_le okR l
    have h3 := List.length_filter_le (fun x => decide (trOf x = trOf r)) (sd cmpR (l.filter okR))
    unfold ofF; omega)
  have hpl : ∀ r, (paF l r).length ≤ 256 := fun r => pathF_len _ _
  have hLo := owF_look l
  have hm : msF l = ((sd cmpR (l.filter okR)).filter (mesB l)).map (meF l) := rfl
  have ho : owF l = (trsF l).foldl (fun m t => ins m t (ofF l t)) [] := rfl
  have hB : ∀ r, mesB l r = (r.an && (usR r && (decide (r.tt ≤ ((paF l r).length : Int)) && (decide ((paF l r).getD (r.tt.toNat - 1) 0 = r.fr) && (wsO ((paF l r).take r.tt.toNat)).2)))) := fun _ => rfl
  have hF : ∀ r, meF l r = (r, (wsO ((paF l r).take r.tt.toNat)).1) := fun _ => rfl
  generalize msF l = out at hm ⊢
  generalize sd cmpR (l.filter okR) = o at hO hol hm
  generalize owF l = om at hLo ho
  generalize trsF l = ts at hT hTl ho
  generalize mesB l = mb at hB hm
  generalize meF l = mf at hF hm
  refine Ok.enter Tryz.func75 rfl _ Tryz.ntmps75 rfl ?_
  intro S w0
  (refine Qw (Qq fun K hK => ?_); refine Qv rfl rfl rfl ?_; refine Qj (hK _ _ (Qz (Qw ?_))); clear hK K; refine Qq (fun K hK => ?_))
  refine Zp 6 rfl rfl rfl rfl rfl (fun v1 hv1 => ?_)
  (refine Qv rfl rfl rfl ?_; refine Qj (hK _ _ (Qz (Qw (Qw ?_)))); clear hK K; refine Qq (fun K hK => ?_); refine Qx rfl rfl rfl ?_)
  refine Xp 3 goTraces hT rfl rfl rfl rfl rfl rfl ?_
  refine X2 3 _ rfl (tks_frozen _ _) XZ ?_
  (refine Qd rfl rfl (by with_reducible first | exact sTks.und | exact sWrs.und | exact sIks.und | exact sAdrs.und) (List.length_map ..) rfl ?_; refine Qx rfl rfl rfl ?_; refine Qj (hK _ _ (Qz (Q4 ?_))); clear hK K)
  refine Xj (α := Nat) (fun i => i ≤ ts.length)
    (fun i => [(0, .ct (rssC l)), (3, .ct (.ex v1)), (17, .ct (tksC ts)), (18, .ct (intC ts.length)), (19, .ct (intC i))])
    (fun i => [(6, .mpx v1 (owM ((ts.take i).foldl (fun m t => ins m t (ofF l t)) [])))])
    (fun i => ts.length - i) 0 (Nat.zero_le _) (by exact QX rfl ⟨rfl, rfl, rfl, rfl, rfl, trivial⟩) ?_
  intro i hi
  try dsimp only at hi ⊢
  (refine Qw (Qq fun K hK => ?_); refine Qk ilss rfl rfl rfl rfl ?_; refine Qj (hK _ _ (Qz (Qw ?_))); clear hK K)
  refine Q2 rfl (fun h => ?_) (fun h => ?_)
  · have e2 : (i : Int).toNat = i := Int.toNat_natCast i
    have hs := foldl_take (fun m t => ins m t (ofF l t)) ([] : OwM) (z := tk0) (l := ts) (i := i) (by omega)
    generalize (ts.take i).foldl (fun m t => ins m t (ofF l t)) ([] : OwM) = m at hs ⊢
    (refine Q1 (Qz (Qw (Q4 (Qw (Qq fun K hK => ?_))))))
    refine Ql rfl rfl rfl (by with_reducible exact sTks) (by omega) (tks_at (by omega) (by omega)) rfl ?_
    rw [e2]
    generalize ts.getD i tk0 = t at hs ⊢
    refine XW (n := 3) rfl rfl rfl (by with_reducible exact Zl) rfl rfl ?_
    refine Qg 2 rfl rfl (by with_reducible exact zvTrace) rfl rfl rfl ?_
    refine Qc 3 rfl rfl rfl rfl rfl (by with_reducible exact szTrace) rfl rfl ?_
    (refine Qj (hK _ _ (Qz ?_)); clear hK K)
    refine Xu (by with_reducible exact mixed) 5 (.p 0 (.p 2 (.f 1 (.f 3 (.m 4 (.a 5 .done)))))) (by kernel_rfl) (fun K hK => ?_)
    (refine Qx rfl rfl rfl ?_; refine Qx rfl rfl rfl ?_; refine Q7 (n := 3) rfl rfl rfl rfl rfl (by with_reducible exact Zl) rfl ?_; refine Q7 (n := 3) rfl rfl rfl rfl rfl (by with_reducible exact Zl) rfl ?_)
    refine Xp 3 goOf (hOf t) rfl rfl rfl rfl rfl rfl ?_
    refine X2 3 _ rfl (Xn _ _) XZ ?_
    refine Xx (i := 6) (enc := tkE) (cv := rssC) t (ofF l t) rfl rfl rfl (KeyIs.agg (us := tkVs t) rfl) rfl uMOwn keyTk ?_
    (refine Qj (hK _ _ (Qz ?_)); clear hK K; refine Qq (fun K hK => ?_); refine Qk (iadd (by omega) (by omega)) rfl rfl rfl rfl ?_; refine Qx rfl rfl rfl ?_; refine Qj (hK _ _ (Q3 ?_)); clear hK K)
    refine Qn 2 ?_
    refine Q9 (i + 1) (by omega) (by omega) (by rw [hs]; exact QX rfl ⟨rfl, rfl, rfl, rfl, by simp only [Int.natCast_add]; rfl, trivial⟩)
  have hi' : i = ts.length := by omega
  rw [hi', List.take_length, ← ho]
  clear hT hOf ho hTl
  (refine Qp (Qz (Qw (Qq fun K hK => ?_))))
  refine Zp 8 rfl rfl rfl rfl rfl (fun v2 hv2 => ?_)
  (refine Qv rfl rfl rfl ?_; refine Qj (hK _ _ (Qz (Qw ?_))); clear hK K; refine Qq (fun K hK => ?_); refine Qv rfl rfl rfl ?_; refine Qj (hK _ _ (Qz (Qw (Qw ?_)))); clear hK K; refine Qq (fun K hK => ?_); refine Qx rfl rfl rfl ?_)
  refine Xp 3 goOrder hO rfl rfl rfl rfl rfl rfl ?_
  refine X2 3 _ rfl (Xn _ _) XZ ?_
  (refine Qd rfl rfl (by with_reducible exact sRes.und) (List.length_map ..) rfl ?_; refine Qx rfl rfl rfl ?_; refine Qj (hK _ _ (Qz (Q4 ?_))); clear hK K)
  refine Xe 7 4 135 18 rfl rfl rfl ?_
  refine Xj (α := Nat × KnM) (fun q => q.1 ≤ o.length ∧ knOk l q.2)
    (fun q => [(3, .ct (.ex v1)), (6, .ct (.ex v2)), (7, .own 4), (31, .ct (rssC o)), (32, .ct (intC o.length)), (33, .ct (intC q.1))])
    (fun q => [(4, .row 135 18 (mes (((o.take q.1).filter mb).map mf))), (8, .mpx v2 (knM q.2)), (6, .mpx v1 (owM om))])
    (fun q => o.length - q.1) (0, []) ⟨Nat.zero_le _, fun _ _ h => by cases h⟩ (by exact QX rfl ⟨rfl, rfl, rfl, rfl, rfl, rfl, trivial⟩) ?_
  clear h hi hi' i
  intro ⟨i, m⟩ ⟨hi, hm'⟩
  try dsimp only at hi hm' ⊢
  (refine Qw (Qq fun K hK => ?_); refine Qk ilss rfl rfl rfl rfl ?_; refine Qj (hK _ _ (Qz (Qw ?_))); clear hK K)
  refine Q2 rfl (fun h => ?_) (fun h => ?_)
  rotate_left
  · have hi' : i = o.length := by omega
    rw [hi', List.take_length, ← hm]
    (refine Qp (Qz (Qw (Qq fun K hK => ?_))); refine Qx rfl rfl rfl ?_; refine Qv rfl rfl rfl ?_; refine Qj (hK _ _ (Qz (Q0 ?_))); clear hK K)
    refine Z6 4 _ rfl (mes_frozen _ _) XZ ?_
    refine QK [_] rfl (Qu rfl QQ) rfl rfl
  have e2 : (i : Int).toNat = i := Int.toNat_natCast i
  have hs := YQ mb (z := rs0) (i := i) (l := o) (by omega)
  have hfl := filter_len mb o i
  (refine Q1 (Qz (Qw (Q4 (Qw (Qq fun K hK => ?_))))); refine Ql rfl rfl rfl (by with_reducible exact sRes) (by omega) (Z9 (by omega) (by omega)) rfl ?_; refine XW (n := 17) rfl rfl rfl (by with_reducible exact lRes) rfl rfl ?_; refine Qg 0 rfl rfl (by with_reducible exact zvRes) rfl rfl rfl ?_; refine Qc 17 rfl rfl rfl rfl rfl (by with_reducible exact szRes) rfl rfl ?_; refine Qj (hK _ _ (Qz (Qw (Qw ?_)))); clear hK K; refine Qq (fun K hK => ?_); refine QV rfl rfl rfl (by with_reducible first | exact fS0 | exact fS1 | exact fS2 | exact fS3 | exact fS4 | exact fS5 | exact fS6 | exact fS7 | exact fS8 | exact fS9 | exact fS10 | exact fS11 | exact fN0 | exact fN1 | exact fN2 | exact fN3 | exact fN4 | exact fN5) rfl ?_; refine QJ rfl rfl rfl rfl rfl (by with_reducible first | exact lInt | exact Qa | exact Q5 | exact lRess) rfl ?_; refine Qm rfl rfl rfl ?_; refine Qx rfl rfl rfl ?_)
  rw [e2]
  generalize o.getD i rs0 = r at hs
  generalize (o.take i).filter mb = q at hs hfl ⊢
  rw [hB r] at hs
  have hkn := fun m (h : knOk l m) => knOk_ins h (trOf r, r.fl)
  have hal' := fun p => hm' (trOf r, r.fl) p
  have hPr := hP r
  have hpr := hpl r
  have hFr := hF r
  have hLr := hLo (trOf r)
  have hUr := hU r
  have hTt : usR r = true → 1 ≤ r.tt ∧ r.tt ≤ 255 := usR_tt
  clear hP hpl hF hB hLo hU hm
  dsimp only at hkn hal'
  unfold paF at hs hpr hFr
  generalize pathF (ofF l (trOf r)) r.fl = p at hs hpr hFr hal' hkn hPr
  rw [← hLr] at hPr
  generalize usR r = ub at hUr hTt hs
  refine X5 40 rfl (fun g1 => ?_) (fun g1 => ?_)
  · rw [if_neg (by simp at g1; simp [g1])] at hs
    (refine Qy rfl rfl rfl ?_; refine Qy rfl rfl rfl ?_; refine Qy rfl rfl rfl ?_; refine QZ rfl rfl rfl rfl ?_; refine Qj (hK _ _ (Qz (Qo rfl (Qp (Qz ?_))))); clear hK K; refine Qq (fun K hK => ?_); refine Qk (iadd (by omega) (by omega)) rfl rfl rfl rfl ?_; refine Qx rfl rfl rfl ?_; refine Qj (hK _ _ (Q3 ?_)); clear hK K)
    refine Qn 0 ?_
    refine Q9 (i + 1, m) (by dsimp only; omega) ⟨by dsimp only; omega, hm'⟩ (by dsimp only; rw [hs]; exact QX rfl ⟨rfl, rfl, rfl, rfl, rfl, by simp only [Int.natCast_add]; rfl, trivial⟩)
  have g1 : r.an = true := by simpa using g1
  (refine Q7 (n := 17) rfl rfl rfl rfl rfl (by with_reducible exact lRes) rfl ?_)
  refine QW goUsable hUr rfl rfl rfl rfl ?_
  (refine Qm rfl rfl rfl ?_; refine QU rfl rfl rfl rfl ?_; refine Qj (hK _ _ (Qz ?_)); clear hK K)
  refine Xy rfl (fun g2 => ?_) (fun g2 => ?_)
  · rw [if_neg (by simp at g2; simp [g2])] at hs
    (refine Qp (Qz (Qq fun K hK => ?_)); refine Qk (iadd (by omega) (by omega)) rfl rfl rfl rfl ?_; refine Qx rfl rfl rfl ?_; refine Qj (hK _ _ (Q3 ?_)); clear hK K)
    refine Qn 0 ?_
    refine Q9 (i + 1, m) (by dsimp only; omega) ⟨by dsimp only; omega, hm'⟩ (by dsimp only; rw [hs]; exact QX rfl ⟨rfl, rfl, rfl, rfl, rfl, by simp only [Int.natCast_add]; rfl, trivial⟩)
  have g2 : ub = true := by simpa using g2
  obtain ⟨t1, t2⟩ := hTt g2
  rw [g1, g2, Bool.true_and, Bool.true_and] at hs
  clear hTt hUr
  (refine Q1 (Qz (Qw ?_)))
  refine ZU (α := Unit) (fun _ => True) (fun _ => [(3, .ct (.ex v1)), (6, .ct (.ex v2)), (7, .own 4), (31, .ct (rssC o)), (32, .ct (intC o.length)), (33, .ct (intC i)), (9, .own 0), (10, .own 1)])
    (fun _ => [(1, .box 167 (stmCs (trOf r, r.fl))), (0, .box 35 (rsCs r)), (4, .row 135 18 (mes (q.map mf))), (8, .mpx v2 (knM m)), (6, .mpx v1 (owM om))]) (fun _ _ => ?_) (fun KN hM => ?_)
  rotate_left
  · refine Xu (by with_reducible exact mixed) 6 (.p 2 (.f 0 (.f 3 (.fork 1 (.p 4 (.m 5 (.a 6 .done))) 5 (.m 1 (.p 4 (.a 6 .done))))))) (by kernel_rfl) (fun K hK => ?_)
    (refine QV rfl rfl rfl (by with_reducible first | exact fS0 | exact fS1 | exact fS2 | exact fS3 | exact fS4 | exact fS5 | exact fS6 | exact fS7 | exact fS8 | exact fS9 | exact fS10 | exact fS11 | exact fN0 | exact fN1 | exact fN2 | exact fN3 | exact fN4 | exact fN5) rfl ?_; refine Q7 (n := 17) rfl rfl rfl rfl rfl (by with_reducible exact lRes) rfl ?_; refine QJ rfl rfl rfl rfl rfl (by with_reducible first | exact lInt | exact Qa | exact Q5 | exact lRess) rfl ?_)
    refine Yv ?_ ?_
    · refine QW YX (Yu r) rfl rfl rfl rfl ?_
      refine Qs rfl (by with_reducible exact bDst) rfl (.agg rfl rfl rfl rfl (.one rfl rfl rfl rfl .nil)) rfl ?_
      refine Qg 1 rfl rfl (by with_reducible exact zvDst) rfl rfl rfl ?_
      refine Qc 4 rfl rfl rfl rfl rfl (by with_reducible exact szDst) rfl rfl ?_
      (refine Qj (hK _ _ ?_); clear hK K)
      exact Xq hM () trivial (QX rfl ⟨rfl, rfl, rfl, rfl, rfl, rfl, rfl, rfl, trivial⟩)
    · refine Qg 1 rfl rfl (by with_reducible exact zvDst) rfl rfl rfl ?_
      refine QW YX (Yu r) rfl rfl rfl rfl ?_
      refine Qs rfl (by with_reducible exact bDst) rfl (.agg rfl rfl rfl rfl (.one rfl rfl rfl rfl .nil)) rfl ?_
      refine Qc 4 rfl rfl rfl rfl rfl (by with_reducible exact szDst) rfl rfl ?_
      (refine Qj (hK _ _ ?_); clear hK K)
      exact Xq hM () trivial (QX rfl ⟨rfl, rfl, rfl, rfl, rfl, rfl, rfl, rfl, trivial⟩)
  (refine Qw (Qq fun K hK => ?_); refine Qx rfl rfl rfl ?_)
  refine Q7 (n := 4) rfl rfl rfl rfl rfl (by with_reducible exact lDst) rfl ?_
  refine Ops.lookM2 (i := 8) (cv := adsC) (enc := stmE) [] (trOf r, r.fl) rfl rfl rfl rfl (KeyIs.agg (us := stmV (trOf r, r.fl)) rfl) uMDst z0Ads (fun S w => Zx S w _ rfl) keyDst rfl ?_
  generalize look1 m (trOf r, r.fl) = lk at hal'
  refine Qx rfl rfl rfl ?_
  refine Qf rfl rfl rfl rfl ?_
  refine Qf rfl rfl rfl rfl ?_
  refine Qv rfl rfl rfl ?_
  refine Qv rfl rfl rfl ?_
  refine Qj (hK _ _ ?_)
  clear hK K
  refine Qz ?_
  refine Qw ?_
  refine ZU (α := KnM) (fun m => knOk l m) (fun _ => [(3, .ct (.ex v1)), (6, .ct (.ex v2)), (7, .own 4), (31, .ct (rssC o)), (32, .ct (intC o.length)), (33, .ct (intC i)), (9, .own 0), (10, .own 1), (11, .ct (adsC p))])
    (fun m => [(1, .box 167 (stmCs (trOf r, r.fl))), (0, .box 35 (rsCs r)), (4, .row 135 18 (mes (q.map mf))), (8, .mpx v2 (knM m)), (6, .mpx v1 (owM om))]) (fun m2 hm2 => ?_) (fun KN hM => ?_)
  rotate_left
  · (refine Qw (Qq fun K hK => ?_); refine Qx rfl rfl rfl ?_; refine Qm rfl rfl rfl ?_; refine Qj (hK _ _ (Qz ?_)); clear hK K)
    refine Xy rfl (fun h2 => ?_) (fun h2 => ?_)
    · (refine Qw ?_)
      refine Xu (by with_reducible exact mixed) 8 (.p 0 (.p 1 (.p 4 (.f 2 (.f 3 (.f 5 (.m 6 (.p 7 .done)))))))) (by kernel_rfl) (fun K hK => ?_)
      (refine Qx rfl rfl rfl ?_)
      refine QV rfl rfl rfl (by with_reducible exact fDst0) rfl ?_
      (refine QV rfl rfl rfl (by with_reducible first | exact fS0 | exact fS1 | exact fS2 | exact fS3 | exact fS4 | exact fS5 | exact fS6 | exact fS7 | exact fS8 | exact fS9 | exact fS10 | exact fS11 | exact fN0 | exact fN1 | exact fN2 | exact fN3 | exact fN4 | exact fN5) rfl ?_)
      refine Ops.ldNA (n := 3) rfl rfl rfl rfl (Nat.le_of_ble_eq_true rfl) (by with_reducible exact Zl) rfl ?_
      refine Ops.lookM (i := 6) (enc := tkE) (cv := rssC) [] (trOf r) rfl rfl rfl rfl (KeyIs.agg (us := tkVs (trOf r)) rfl) uMOwn z0Rss (fun S w => Zx S w _ rfl) keyTk rfl ?_
      (refine QJ rfl rfl rfl rfl rfl (by with_reducible first | exact lInt | exact Qa | exact Q5 | exact lRess) rfl ?_)
      refine Xp 3 goPath hPr rfl rfl rfl rfl rfl rfl ?_
      refine X2 3 _ rfl (adrs_frozen _ _) XZ ?_
      (refine Qv rfl rfl rfl ?_; refine Qj (hK _ _ (Qz ?_)); clear hK K; refine Qq (fun K hK => ?_); refine Qx rfl rfl rfl ?_)
      refine Q7 (n := 4) rfl rfl rfl rfl rfl (by with_reducible exact lDst) rfl ?_
      (refine Qx rfl rfl rfl ?_)
      refine Xx (i := 8) (enc := stmE) (cv := adsC) (trOf r, r.fl) p rfl rfl rfl (KeyIs.agg (us := stmV (trOf r, r.fl)) rfl) rfl uMDst keyDst ?_
      (refine Qj (hK _ _ ?_); clear hK K)
      exact Xq hM _ (hkn m hm') (QX rfl ⟨rfl, rfl, rfl, rfl, rfl, rfl, rfl, rfl, rfl, trivial⟩)
    · cases lk with
      | none => cases h2
      | some p' =>
        rw [← hal' p' rfl] at hM
        (refine Q1 ?_)
        exact Xq hM m hm' (QX rfl ⟨rfl, rfl, rfl, rfl, rfl, rfl, rfl, rfl, rfl, trivial⟩)
  clear hal' hkn hPr hm'
  (refine Qw (Qw ?_))
  refine Xu (by with_reducible exact mixed) 17 (.p 0 (.p 1 (.p 2 (.f 3 (.p 4 (.p 5 (.p 6 (.p 7 (.p 12 (.p 13 (.f 8 (.p 9 (.p 10 (.f 11 (.f 14 (.p 15 (.p 16 .done))))))))))))))))) (by kernel_rfl) (fun K hK => ?_)
  (refine Qx rfl rfl rfl ?_; refine Qd rfl rfl (by with_reducible first | exact sTks.und | exact sWrs.und | exact sIks.und | exact sAdrs.und) (List.length_map ..) rfl ?_; refine QV rfl rfl rfl (by with_reducible first | exact fS0 | exact fS1 | exact fS2 | exact fS3 | exact fS4 | exact fS5 | exact fS6 | exact fS7 | exact fS8 | exact fS9 | exact fS10 | exact fS11 | exact fN0 | exact fN1 | exact fN2 | exact fN3 | exact fN4 | exact fN5) rfl ?_; refine QJ rfl rfl rfl rfl rfl (by with_reducible first | exact lInt | exact Qa | exact Q5 | exact lRess) rfl ?_; refine Qk ilss rfl rfl rfl rfl ?_; refine Qx rfl rfl rfl ?_)
  refine Q6 73 rfl (fun g3 => ?_) (fun g3 => ?_)
  · rw [if_neg (by rw [decide_eq_false (show ¬ r.tt ≤ (p.length : Int) by omega)]; simp)] at hs
    (refine Qy rfl rfl rfl ?_; refine Qy rfl rfl rfl ?_; refine Qy rfl rfl rfl ?_; refine Qy rfl rfl rfl ?_; refine Qy rfl rfl rfl ?_; refine Qy rfl rfl rfl ?_; refine Qy rfl rfl rfl ?_; refine Qy rfl rfl rfl ?_; refine Qy rfl rfl rfl ?_; refine Qy rfl rfl rfl ?_; refine QZ rfl rfl rfl rfl ?_; refine Qj (hK _ _ (Qz (Qo rfl (Qp (Qz ?_))))); clear hK K; refine Qq (fun K hK => ?_); refine Qk (iadd (by omega) (by omega)) rfl rfl rfl rfl ?_; refine Qx rfl rfl rfl ?_; refine Qj (hK _ _ (Q3 ?_)); clear hK K)
    refine Qn 1 ?_
    refine Qn 0 ?_
    refine Q9 (i + 1, m2) (by dsimp only; omega) ⟨by dsimp only; omega, hm2⟩ (by dsimp only; rw [hs]; exact QX rfl ⟨rfl, rfl, rfl, rfl, rfl, by simp only [Int.natCast_add]; rfl, trivial⟩)
  rw [decide_eq_true (show r.tt ≤ (p.length : Int) by omega), Bool.true_and] at hs
  have e6 : (r.tt - 1).toNat = r.tt.toNat - 1 := by omega
  (refine Qx rfl rfl rfl ?_; refine QV rfl rfl rfl (by with_reducible first | exact fS0 | exact fS1 | exact fS2 | exact fS3 | exact fS4 | exact fS5 | exact fS6 | exact fS7 | exact fS8 | exact fS9 | exact fS10 | exact fS11 | exact fN0 | exact fN1 | exact fN2 | exact fN3 | exact fN4 | exact fN5) rfl ?_; refine QV rfl rfl rfl (by with_reducible first | exact fS0 | exact fS1 | exact fS2 | exact fS3 | exact fS4 | exact fS5 | exact fS6 | exact fS7 | exact fS8 | exact fS9 | exact fS10 | exact fS11 | exact fN0 | exact fN1 | exact fN2 | exact fN3 | exact fN4 | exact fN5) rfl ?_; refine X7 rfl rfl (by with_reducible first | exact fN0 | exact fN1 | exact fN2 | exact fN3 | exact fN4 | exact fN5) rfl ?_; refine QJ rfl rfl rfl rfl rfl (by with_reducible first | exact lInt | exact Qa | exact Q5 | exact lRess) rfl ?_; refine Qk (isub (by omega) (by omega)) rfl rfl rfl rfl ?_)
  refine Ql rfl rfl rfl (by with_reducible exact sAdrs) (by omega) (adrs_at (by omega) (by omega)) rfl ?_
  rw [e6]
  skip
  refine XQ rfl rfl rfl (by with_reducible exact Qa) rfl ?_
  (refine QJ rfl rfl rfl rfl rfl (by with_reducible first | exact lInt | exact Qa | exact Q5 | exact lRess) rfl ?_; refine Qk ineq rfl rfl rfl rfl ?_; refine QU rfl rfl rfl rfl ?_; refine Qj (hK _ _ (Qz ?_)); clear hK K)
  refine Q2 rfl (fun g4 => ?_) (fun g4 => ?_)
  · have g4 : ¬ p.getD (r.tt.toNat - 1) 0 = r.fr := fun h => g4 (by rw [h])
    rw [if_neg (by rw [decide_eq_false g4]; simp)] at hs
    (refine Qp (Qz (Qq fun K hK => ?_)); refine Qk (iadd (by omega) (by omega)) rfl rfl rfl rfl ?_; refine Qx rfl rfl rfl ?_; refine Qj (hK _ _ (Q3 ?_)); clear hK K)
    refine Qn 1 ?_
    refine Qn 0 ?_
    refine Q9 (i + 1, m2) (by dsimp only; omega) ⟨by dsimp only; omega, hm2⟩ (by dsimp only; rw [hs]; exact QX rfl ⟨rfl, rfl, rfl, rfl, rfl, by simp only [Int.natCast_add]; rfl, trivial⟩)
  have g4 : p.getD (r.tt.toNat - 1) 0 = r.fr := _root_.Fin.ext (by have := Decidable.not_not.1 g4; omega)
  rw [decide_eq_true g4, Bool.true_and] at hs
  (refine Q1 (Qz (Qw (Qq fun K hK => ?_))); refine Qx rfl rfl rfl ?_; refine QV rfl rfl rfl (by with_reducible first | exact fS0 | exact fS1 | exact fS2 | exact fS3 | exact fS4 | exact fS5 | exact fS6 | exact fS7 | exact fS8 | exact fS9 | exact fS10 | exact fS11 | exact fN0 | exact fN1 | exact fN2 | exact fN3 | exact fN4 | exact fN5) rfl ?_; refine QJ rfl rfl rfl rfl rfl (by with_reducible first | exact lInt | exact Qa | exact Q5 | exact lRess) rfl ?_)
  refine Ops.cutHi rfl rfl rfl (by with_reducible exact sAdrs) (by omega) (by rw [List.length_map]; omega) rfl ?_
  rw [← List.map_take]
  have hw := wires_ok (p.take r.tt.toNat) (by rw [List.length_take]; omega)
  generalize wsO (p.take r.tt.toNat) = wo at hs hw hFr
  obtain ⟨ws, wb⟩ := wo
  dsimp only at hs hw hFr
  refine QW gowires hw rfl rfl rfl rfl ?_
  (refine Qx rfl rfl rfl ?_; refine Qf rfl rfl rfl rfl ?_; refine Qf rfl rfl rfl rfl ?_; refine Qv rfl rfl rfl ?_; refine Qv rfl rfl rfl ?_; refine Qj (hK _ _ (Qz (Qw ?_))); clear hK K; refine Qq (fun K hK => ?_); refine Qx rfl rfl rfl ?_; refine Qj (hK _ _ (Qz ?_)); clear hK K)
  refine Xy rfl (fun g5 => ?_) (fun g5 => ?_)
  · rw [if_pos g5] at hs
    (refine Qq (fun K hK => ?_); refine Qx rfl rfl rfl ?_; refine Q7 (n := 17) rfl rfl rfl rfl rfl (by with_reducible exact lRes) rfl ?_; refine Qx rfl rfl rfl ?_)
    refine Qs rfl (by with_reducible exact bMe) rfl (.agg rfl rfl rfl rfl (.one rfl rfl rfl rfl .nil)) rfl ?_
    refine X4 (n := 18) rfl rfl (by with_reducible exact sMes) rfl rfl (by decide) rfl ?_
    refine Qt (q.map mf).length (mes (q.map mf ++ [(r, ws)])) rfl rfl rfl rfl (by with_reducible exact sMes) (mes_len _) rfl (by rw [List.length_map]; omega) (by rw [List.length_map]; omega) (mes_snoc _ _) rfl ?_
    (refine Qv rfl rfl rfl ?_; refine Qj (hK _ _ (Qz ?_)); clear hK K; refine Qq (fun K hK => ?_); refine Qk (iadd (by omega) (by omega)) rfl rfl rfl rfl ?_; refine Qx rfl rfl rfl ?_; refine Qj (hK _ _ (Q3 ?_)); clear hK K)
    refine Qn 1 ?_
    refine Qn 0 ?_
    refine Q9 (i + 1, m2) (by dsimp only; omega) ⟨by dsimp only; omega, hm2⟩ (by dsimp only; rw [hs, List.map_append, List.map_singleton, hFr]; exact QX rfl ⟨rfl, rfl, rfl, rfl, rfl, by simp only [Int.natCast_add]; rfl, trivial⟩)
  · rw [if_neg (by rw [g5]; decide)] at hs
    (refine Q1 (Qz (Qq fun K hK => ?_)); refine Qk (iadd (by omega) (by omega)) rfl rfl rfl rfl ?_; refine Qx rfl rfl rfl ?_; refine Qj (hK _ _ (Q3 ?_)); clear hK K)
    refine Qn 1 ?_
    refine Qn 0 ?_
    refine Q9 (i + 1, m2) (by dsimp only; omega) ⟨by dsimp only; omega, hm2⟩ (by dsimp only; rw [hs]; exact QX rfl ⟨rfl, rfl, rfl, rfl, rfl, by simp only [Int.natCast_add]; rfl, trivial⟩)
end Go.Proofs.YtlkdkbdgnjcopaaGreat
namespace Go.Proofs.YtlkdkbdgnjcopaaGreat
open Go.Own Go.Limbs Go.Shelf
open Go.Sort hiding Ok
attribute [local irreducible] St Ops Go.Own.Fin Ok OkB OkN OkT OkL OkF OkM
def wsA (l : List Me) : List Wr := l.flatMap fun x => x.2
def vrF (l : List Rs) : List Wr := sd cmpW (wsA (msF l))
def vrO (l : List Rs) : List Wr × Int := if ¬ chkF l = 0 then ([], chkF l) else if 16 < ((vrF l).length : Int) then ([], 5) else (vrF l, 0)
theorem me_wires (l : List Rs) : ∀ x ∈ msF l, x.2.length ≤ 256 := fun x hx => by
  obtain ⟨r, hr, rfl⟩ := List.mem_map.1 hx
  show (wsO _).1.length ≤ 256
  unfold wsO
  have hp : (paF l r).length ≤ 256 := pathF_len _ _
  split
  · rw [wsG_len, List.length_take]; omega
  · exact Nat.zero_le _
theorem wsA_len : ∀ (l : List Me), (∀ x ∈ l, x.2.length ≤ 256) → (wsA l).length ≤ l.length * 256
  | [], _ => Nat.le_refl _
  | x :: l, h => by
    have h1 := wsA_len l fun y hy => h y (List.mem_cons_of_mem _ hy)
    have h2 := h x (List.mem_cons_self ..)
    have e : wsA (x :: l) = x.2 ++ wsA l := by simp [wsA]
    rw [e, List.length_append, List.length_cons, Nat.succ_mul]
    omega
theorem lWrs1 : Ld1 Tryz.prog 64 := Ld1.of _ Tryz.underlying64 rfl
theorem wrs_ones (l : List Wr) : ones (wrs l) = true := el_ones (fun _ => rfl) l
theorem goVar1 : InGo Tryz.prog 72 := InGo.of Tryz.func72 rfl (by decide)
theorem Var1_ok (r : Rs) : Ok Tryz.prog 72 [rsC r] (boolC (!okR r)) := by
  refine Ok.enter Tryz.func72 rfl _ Tryz.ntmps72 rfl ?_
  intro S w
  (refine Qw (Qq fun K hK => ?_); refine Xk 0 rfl rfl rfl rfl rfl rfl rfl ?_; refine Qv rfl rfl rfl ?_; refine Qj (hK _ _ (Qz (Qw ?_))); clear hK K; refine Qq (fun K hK => ?_); refine Q7 (n := 17) rfl rfl rfl rfl rfl (by with_reducible exact lRes) rfl ?_)
  refine QW goValidR (ValidR_ok r) rfl rfl rfl rfl ?_
  (refine Qm rfl rfl rfl ?_; refine Qv rfl rfl rfl ?_; refine Qj (hK _ _ (Qz (Q0 ?_))); clear hK K)
  refine QK [_] rfl (Qu rfl QQ) rfl rfl
theorem goVariables : InGo Tryz.prog 36 := InGo.of Tryz.func36 rfl (by decide)
set_option maxHeartbeats 8000000 in
theorem Variables_ok (l : List Rs) (hl : l.length ≤ 10000) : Ok Tryz.prog 36 [rssC l] (.fr (tupT [wrsC (vrO l).1, intC (vrO l).2])) := by
  have hC := ContainsFunc_res l _ (fun r => !okR r) goVar1 (fun x _ => Var1_ok x) (by omega)
  have hO := Order_ok l hl
  have hN := Consistent_ok l hl
  have hM := measures_ok l hl
  have e : vrO l = if ¬ chkF l = 0 then ([], chkF l) else if 16 < ((vrF l).length : Int) then ([], 5) else (vrF l, 0) := rfl
  have e1 : chkF l = if (l.any fun r => !okR r) = true then 1 else if 512 < ((sd cmpR (l.filter okR)).length : Int) then 5 else if consB l = true then 0 else 30 := rfl
  have e2 : vrF l = dd ((wsA (msF l)).mergeSort fun x y => !(ltOf cmpW) y x) := rfl
  have hol : (sd cmpR (l.filter okR)).length ≤ 10000 := by
    have := Zn cmpR (l.filter okR)
    have := List.length_filter_le okR l
    omega
  have hml : (msF l).length ≤ 10000 := by
    unfold msF
    rw [List.length_map]
    exact Nat.le_trans (List.length_filter_le _ _) hol
  have hmw := me_wires l
  generalize vrO l = out at e ⊢
  generalize vrF l = vr at e e2
  generalize chkF l = c at e e1
  generalize (l.any fun r => !okR r) = b1 at hC e1
  generalize sd cmpR (l.filter okR) = o at hO e1 hol
  generalize consB l = b3 at hN e1
  generalize msF l = ms at hM e2 hml hmw
  refine Ok.enter Tryz.func36 rfl _ Tryz.ntmps36 rfl ?_
  intro S w
  (refine Qw (Qq fun K hK => ?_); refine Qv rfl rfl rfl ?_; refine Qv rfl rfl rfl ?_; refine Qj (hK _ _ (Qz (Qw (Q4 (Qw ?_))))); clear hK K; refine Qq (fun K hK => ?_); refine Qx rfl rfl rfl ?_)
  refine QW goContainsFunc_res hC rfl rfl rfl rfl ?_
  (refine Qv rfl rfl rfl ?_; refine Qj (hK _ _ (Qz ?_)); clear hK K)
  refine Xy rfl (fun h => ?_) (fun h => ?_)
  · rw [if_pos h] at e1
    rw [if_pos (by rw [e1]; decide), e1] at e
    (refine Qw (Qq fun K hK => ?_); refine Qv rfl rfl rfl ?_; refine Qv rfl rfl rfl ?_; refine Qj (hK _ _ (Qz (Q0 (Q8 (QY ?_))))); clear hK K)
    refine QK [_, _] rfl (XX Zx (Qu rfl (Qu rfl QQ))) (by rw [e]; rfl) rfl
  rw [if_neg (by rw [h]; decide)] at e1
  (refine Qw (Qq fun K hK => ?_); refine Qx rfl rfl rfl ?_)
  refine Xp 3 goOrder hO rfl rfl rfl rfl rfl rfl ?_
  refine X2 3 _ rfl (Xn _ _) XZ ?_
  (refine Qd rfl rfl (by with_reducible exact sRes.und) (List.length_map ..) rfl ?_; refine Qk igtr rfl rfl rfl rfl ?_; refine Qv rfl rfl rfl ?_; refine Qj (hK _ _ (Qz ?_)); clear hK K)
  refine Q2 rfl (fun h2 => ?_) (fun h2 => ?_)
  · rw [if_pos h2] at e1
    rw [if_pos (by rw [e1]; decide), e1] at e
    (refine Qw (Qq fun K hK => ?_); refine Qv rfl rfl rfl ?_; refine Qv rfl rfl rfl ?_; refine Qj (hK _ _ (Qz (Q0 (Q8 (QY ?_))))); clear hK K)
    refine QK [_, _] rfl (XX Zx (Qu rfl (Qu rfl QQ))) (by rw [e]; rfl) rfl
  rw [if_neg h2] at e1
  (refine Qw (Qq fun K hK => ?_); refine Qx rfl rfl rfl ?_)
  refine QW goConsistent hN rfl rfl rfl rfl ?_
  (refine Qm rfl rfl rfl ?_; refine Qv rfl rfl rfl ?_; refine Qj (hK _ _ (Qz ?_)); clear hK K)
  refine Xy rfl (fun h3 => ?_) (fun h3 => ?_)
  · rw [if_neg (by simpa using h3)] at e1
    rw [if_pos (by rw [e1]; decide), e1] at e
    (refine Qw (Qq fun K hK => ?_); refine Qv rfl rfl rfl ?_; refine Qv rfl rfl rfl ?_; refine Qj (hK _ _ (Qz (Q0 (Q8 (QY ?_))))); clear hK K)
    refine QK [_, _] rfl (XX Zx (Qu rfl (Qu rfl QQ))) (by rw [e]; rfl) rfl
  rw [if_pos (by simpa using h3)] at e1
  rw [if_neg (fun h => h e1)] at e
  (refine Q1 (Qz (Qw (Qq fun K hK => ?_))); refine Qv rfl rfl rfl ?_; refine Qj (hK _ _ (Qz (Qw (Qw ?_)))); clear hK K; refine Qq (fun K hK => ?_); refine Qx rfl rfl rfl ?_)
  refine QW gomeasures hM rfl rfl rfl rfl ?_
  refine Qd rfl rfl (by with_reducible exact sMes.und) (List.length_map ..) rfl ?_
  (refine Qx rfl rfl rfl ?_; refine Qj (hK _ _ (Qz (Q4 ?_))); clear hK K)
  refine Xe 4 0 37 2 rfl rfl rfl ?_
  refine Xj (α := Nat) (fun i => i ≤ ms.length)
    (fun i => [(4, .own 0), (20, .ct (mesC ms)), (21, .ct (intC ms.length)), (22, .ct (intC i))])
    (fun i => [(0, .row 37 2 (wrs (wsA (ms.take i))))]) (fun i => ms.length - i) 0 (Nat.zero_le _) (by exact QX rfl ⟨rfl, rfl, rfl, rfl, trivial⟩) ?_
  intro i hi
  try dsimp only at hi ⊢
  (refine Qw (Qq fun K hK => ?_); refine Qk ilss rfl rfl rfl rfl ?_; refine Qj (hK _ _ (Qz (Qw ?_))); clear hK K)
  refine Q2 rfl (fun h4 => ?_) (fun h4 => ?_)
  · have e4 : (i : Int).toNat = i := Int.toNat_natCast i
    have hs : wsA (ms.take (i + 1)) = wsA (ms.take i) ++ (ms.getD i me0).2 := by
      unfold wsA
      rw [List.take_add_one, List.getElem?_eq_getElem (by omega), List.getD_eq_getElem?_getD, List.getElem?_eq_getElem (by omega), List.flatMap_append]
      simp
    have hwl := wsA_len (ms.take i) fun x hx => hmw x (List.mem_of_mem_take hx)
    rw [List.length_take] at hwl
    have hwl : (wsA (ms.take i)).length ≤ 2560000 := by omega
    have hx2 := hmw (ms.getD i me0) (by rw [List.getD_eq_getElem?_getD, List.getElem?_eq_getElem (by omega)]; exact List.getElem_mem _)
    (refine Q1 (Qz (Qw (Q4 (Qw (Qq fun K hK => ?_))))))
    refine Ql rfl rfl rfl (by with_reducible exact sMes) (by omega) (mes_at (by omega) (by omega)) rfl ?_
    rw [e4]
    generalize ms.getD i me0 = x at hs hx2
    generalize wsA (ms.take i) = q at hs hwl ⊢
    obtain ⟨r, ws⟩ := x
    dsimp only at hs hx2
    refine XW (n := 18) rfl rfl rfl (by with_reducible exact lMe) rfl rfl ?_
    refine Qg 1 rfl rfl (by with_reducible exact zvMe) rfl rfl rfl ?_
    refine Qc 18 rfl rfl rfl rfl rfl (by with_reducible exact szMe) rfl rfl ?_
    (refine Qj (hK _ _ (Qz ?_)); clear hK K; refine Qq (fun K hK => ?_); refine Qx rfl rfl rfl ?_)
    refine QV rfl rfl rfl (by with_reducible exact fMe1) rfl ?_
    refine QJ rfl rfl rfl rfl rfl (by with_reducible exact lWrs1) rfl ?_
    have hx3 : (ws.map wrCs).length ≤ 256 := by rw [List.length_map]; exact hx2
    refine Ops.append q.length (wrs (q ++ ws)) rfl rfl rfl rfl (by with_reducible exact sWrs) (Yw q) (wrs_ones ws) (by show (q.length + (ws.map wrCs).length) * 8 ≤ _; omega) (by show q.length + (ws.map wrCs).length ≤ _; omega) (wrs_app q ws) rfl ?_
    (refine Qv rfl rfl rfl ?_; refine Qj (hK _ _ (Qz ?_)); clear hK K; refine Qq (fun K hK => ?_); refine Qk (iadd (by omega) (by omega)) rfl rfl rfl rfl ?_; refine Qx rfl rfl rfl ?_; refine Qj (hK _ _ (Q3 ?_)); clear hK K)
    refine Qn 1 ?_
    refine Q9 (i + 1) (by omega) (by omega) (by rw [hs]; exact QX rfl ⟨rfl, rfl, rfl, by simp only [Int.natCast_add]; rfl, trivial⟩)
  have hi' : i = ms.length := by omega
  have hwl := wsA_len ms hmw
  have hwl : (wsA ms).length ≤ 2560000 := by omega
  rw [hi', List.take_length]
  generalize wsA ms = q at e2 hwl ⊢
  have hvl : vr.length ≤ 2560000 := by rw [e2]; exact Nat.le_trans (dd_len _) (by rw [List.length_mergeSort]; omega)
  (refine Qp (Qz (Qw (Qq fun K hK => ?_))); refine Qx rfl rfl rfl ?_)
  refine Ops.callL goSortW (SortD_ok q (by omega)) rfl rfl rfl rfl rfl ?_
  (refine Qj (hK _ _ (Qz (Qw ?_))); clear hK K; refine Qq (fun K hK => ?_); refine Qx rfl rfl rfl ?_)
  refine Ops.callT goCompact_Wr (Compact_Wr_ok (q.mergeSort fun x y => !(ltOf cmpW) y x) (by rw [List.length_mergeSort]; omega)) rfl rfl rfl rfl rfl ?_
  rw [← e2]
  (refine Qv rfl rfl rfl ?_; refine Qj (hK _ _ (Qz (Qw (Qw ?_)))); clear hK K; refine Qq (fun K hK => ?_); refine Qx rfl rfl rfl ?_)
  refine Yj vr.length rfl rfl rfl (by decide) (Yw vr) (by with_reducible exact sWrs.und) rfl ?_
  (refine Qk igtr rfl rfl rfl rfl ?_; refine Qj (hK _ _ (Qz ?_)); clear hK K)
  refine Q2 rfl (fun h5 => ?_) (fun h5 => ?_)
  · rw [if_pos h5] at e
    (refine Qw (Qq fun K hK => ?_); refine Qv rfl rfl rfl ?_; refine Qv rfl rfl rfl ?_; refine Qj (hK _ _ (Qz (Q0 (QY ?_)))); clear hK K)
    refine QK [_, _] rfl (XX Zx (Qu rfl (Qu rfl QQ))) (by rw [e]; rfl) rfl
  rw [if_neg h5] at e
  (refine Q1 (Qz (Qw (Qq fun K hK => ?_))); refine Qx rfl rfl rfl ?_; refine Qv rfl rfl rfl ?_; refine Qv rfl rfl rfl ?_; refine Qj (hK _ _ (Qz (Q0 ?_))); clear hK K)
  refine Z6 0 _ rfl (wrs_frozen _ _) XZ ?_
  refine QK [_, _] rfl (Qu rfl (Qu rfl QQ)) (by rw [e]; rfl) rfl
end Go.Proofs.YtlkdkbdgnjcopaaGreat
namespace Go.Proofs.YtlkdkbdgnjcopaaGreat
open Go.Own Go.Limbs
theorem wsG_sub : ∀ (l : List (_root_.Fin 4294967296)) (p : _root_.Fin 4294967296) (first : Bool), (∀ a ∈ l, a ≠ 0) → (first = true ∨ p ≠ 0) → ∀ w ∈ wsG p l, w ∈ wiresG p l first
  | [], _, _, _, _, _, h => by cases h
  | a :: l, p, first, hl, hp, w, hw => by
    have ha := hl a (List.mem_cons_self ..)
    show w ∈ (if a ≠ 0 ∧ (first = true ∨ p ≠ 0) then [(p, a)] else []) ++ wiresG a l false
    rw [if_pos ⟨ha, hp⟩, List.mem_append]
    rcases List.mem_cons.1 hw with hw | hw
    · exact .inl (by rw [hw]; exact List.mem_singleton.2 rfl)
    · exact .inr (wsG_sub l a false (fun b hb => hl b (List.mem_cons_of_mem _ hb)) (.inr ha) w hw)
theorem vr_way {x : List Rs} {w : Wr} (h : w ∈ vrF x) : ∃ r ∈ sd cmpR (x.filter okR), w ∈ wayF x r := by
  have h := ((Zt ordW _).2 w).1 h
  obtain ⟨m, hm, hw⟩ := List.mem_flatMap.1 h
  obtain ⟨r, hr, rfl⟩ := List.mem_map.1 hm
  obtain ⟨h1, h2⟩ := List.mem_filter.1 hr
  refine ⟨r, h1, ?_⟩
  unfold mesB at h2
  simp only [Bool.and_eq_true, decide_eq_true_eq] at h2
  obtain ⟨_, h3, h4, _, h5⟩ := h2
  have hw : w ∈ (wsO ((paF x r).take r.tt.toNat)).1 := hw
  unfold wsO at h5 hw
  split at h5
  · rename_i hz
    rw [if_pos hz] at hw
    rw [wayF_eq, if_neg (by rw [h3]; simp)]
    unfold paF at h4 hw hz
    rw [if_pos h4]
    exact wsG_sub _ _ _ (fun a ha => of_decide_eq_true (List.all_eq_true.1 hz a ha)) (.inl rfl) w hw
  · cases h5
theorem al_of {x : List Rs} (hc : chkF x = 0) {w : Wr} (h : ∃ r ∈ sd cmpR (x.filter okR), w ∈ wayF x r) :
    w ∈ sd cmpW ((tickF (wayF x) (sd cmpR (x.filter okR))).map (·.1)) ∧ cnOf (tickF (wayF x) (sd cmpR (x.filter okR))) 0 w ∈ (alO x 0).1 := by
  have hk : w ∈ sd cmpW ((tickF (wayF x) (sd cmpR (x.filter okR))).map (·.1)) := by
    rw [(Zt ordW _).2, ← look1_some]
    exact (tickF_some (wayF x) w _ []).2 (.inr h)
  refine ⟨hk, ?_⟩
  unfold alO
  rw [if_neg (by omega), if_neg (fun h => h hc)]
  exact List.mem_map_of_mem hk
structure Cov (x : List Rs) (al : List Cn) (w : Wr) (c : Cn) : Prop where
  cnt : cntF x w 0 = (c, 0)
  mem : c ∈ al
  se : 1 ≤ c.se ∧ c.se ≤ x.length
  hi : 0 ≤ c.hi ∧ c.hi ≤ c.se
theorem covers {x : List Rs} (hc : chkF x = 0) {w : Wr} (h : w ∈ vrF x) : ∃ c, Cov x (alO x 0).1 w c := by
  obtain ⟨_, h2⟩ := al_of hc (vr_way h)
  have hk := cnOf_ok (n := 0) hc ⟨by omega, by omega⟩ h2
  refine ⟨_, ?_, h2, hk.se, hk.hi⟩
  have e := hk.cnt 0 (by omega) (by omega)
  have e2 : (⟨(cnOf (tickF (wayF x) (sd cmpR (x.filter okR))) 0 w).wr, (cnOf (tickF (wayF x) (sd cmpR (x.filter okR))) 0 w).se, max 0 ((cnOf (tickF (wayF x) (sd cmpR (x.filter okR))) 0 w).hi - 0), (cnOf (tickF (wayF x) (sd cmpR (x.filter okR))) 0 w).hi⟩ : Cn) = cnOf (tickF (wayF x) (sd cmpR (x.filter okR))) 0 w := rfl
  rw [e2] at e
  exact e
theorem vr_len {x : List Rs} (hc : chkF x = 0) : (vrF x).length ≤ (alO x 0).1.length := by
  have hu : Up cmpW (vrF x) := (Zt ordW _).1
  have hk := (Zt ordW ((tickF (wayF x) (sd cmpR (x.filter okR))).map (·.1))).1
  have e : vrF x = (sd cmpW ((tickF (wayF x) (sd cmpR (x.filter okR))).map (·.1))).filter fun w => decide (w ∈ vrF x) := by
    refine Up.ext ordW hu (List.Pairwise.sublist List.filter_sublist hk) fun w => ?_
    rw [List.mem_filter]
    exact ⟨fun h => ⟨(al_of hc (vr_way h)).1, decide_eq_true h⟩, fun h => of_decide_eq_true h.2⟩
  have e2 : (alO x 0).1.length = (sd cmpW ((tickF (wayF x) (sd cmpR (x.filter okR))).map (·.1))).length := by
    unfold alO
    rw [if_neg (by omega), if_neg (fun h => h hc)]
    exact List.length_map ..
  rw [e2, e]
  exact List.length_filter_le _ _
attribute [local irreducible] Go.Own.Fin Ok OkB OkF OkL OkM OkN OkT Ops St
def cnI (c : Cn) : List Int := [(c.wr.1.val : Int), (c.wr.2.val : Int), c.se, c.lo, c.hi]
theorem cnI_inj (a b : Cn) (h : cnI a = cnI b) : a = b := by
  obtain ⟨⟨a1, a2⟩, a3, a4, a5⟩ := a
  obtain ⟨⟨b1, b2⟩, b3, b4, b5⟩ := b
  simp only [cnI, List.cons.injEq, and_true, Int.ofNat_inj, _root_.Fin.val_inj] at h
  obtain ⟨h1, h2, h3, h4, h5⟩ := h
  rw [h1, h2, h3, h4, h5]
theorem eqCn : EqF Tryz.prog 39 37 [.u32, .u32] [.i64, .i64, .i64] := ⟨by kernel_rfl, by kernel_rfl, by kernel_rfl, by kernel_rfl, by kernel_rfl, by kernel_rfl, by kernel_rfl, by kernel_rfl⟩
section
variable {X : Ctx} {L : AL} {B : BL} {ops : Array Oper} {K : Act → World → Prop} {r : Pl} {k : Kd}
  {x y z : Operand} {d : Nat} {t t2 t' : TypeId} {pos : String} {af : Array Edge} {g : Option (Nat × Bool)}
end
theorem gocounted : InGo Tryz.prog 38 := InGo.of Tryz.func38 rfl (by decide)
theorem counted_ok (w : Wr) (a b n : Int) (ha : 0 ≤ a ∧ a ≤ 100000) (hb : 0 ≤ b ∧ b ≤ 100000) (hn : 0 ≤ n ∧ n ≤ 1048576) : Ok Tryz.prog 38 [wrC w, csC (a, b), intC n] (cnC ⟨w, a, max 0 (b - n), b⟩) := by
  refine Ok.enter Tryz.func38 rfl _ Tryz.ntmps38 rfl ?_
  intro S w0
  refine Qw ?_
  refine Qq (fun K hK => ?_)
  refine Xk 0 rfl rfl rfl rfl rfl rfl rfl ?_
  refine Xk 1 rfl rfl rfl rfl rfl rfl rfl ?_
  refine Qg 2 rfl rfl (by with_reducible exact zvCn) rfl rfl rfl ?_
  (refine Qj (hK _ _ (Qz (Qw ?_))); clear hK K; refine Qq (fun K hK => ?_); refine Q7 (n := 2) rfl rfl rfl rfl rfl (by with_reducible first | exact Yq | exact ZK | exact lCs) rfl ?_; refine QV rfl rfl rfl (by with_reducible first | exact fTk0 | exact fTk1 | exact fTk2 | exact fWr0 | exact fWr1 | exact X1 | exact X0 | exact Xm | exact fStm1 | exact fCn0 | exact fCn1 | exact fCn2 | exact fCn3 | exact fCs0 | exact fCs1) rfl ?_; refine QJ rfl rfl rfl rfl rfl (by with_reducible first | exact lInt | exact Qa | exact Q5 | exact lRess) rfl ?_; refine QV rfl rfl rfl (by with_reducible first | exact fTk0 | exact fTk1 | exact fTk2 | exact fWr0 | exact fWr1 | exact X1 | exact X0 | exact Xm | exact fStm1 | exact fCn0 | exact fCn1 | exact fCn2 | exact fCn3 | exact fCs0 | exact fCs1) rfl ?_; refine QJ rfl rfl rfl rfl rfl (by with_reducible first | exact lInt | exact Qa | exact Q5 | exact lRess) rfl ?_; refine Qx rfl rfl rfl ?_; refine Qk (isub (by omega) (by omega)) rfl rfl rfl rfl ?_; refine Ops.max2 rfl rfl rfl rfl ?_; refine QV rfl rfl rfl (by with_reducible first | exact fTk0 | exact fTk1 | exact fTk2 | exact fWr0 | exact fWr1 | exact X1 | exact X0 | exact Xm | exact fStm1 | exact fCn0 | exact fCn1 | exact fCn2 | exact fCn3 | exact fCs0 | exact fCs1) rfl ?_; refine QJ rfl rfl rfl rfl rfl (by with_reducible first | exact lInt | exact Qa | exact Q5 | exact lRess) rfl ?_)
  refine Qs rfl (by with_reducible exact bCn) rfl (.agg rfl rfl rfl rfl (.one rfl rfl rfl rfl (.one rfl rfl rfl rfl (.one rfl rfl rfl rfl .nil)))) rfl ?_
  (refine Qc 5 rfl rfl rfl rfl rfl (by with_reducible exact szCn) rfl rfl ?_; refine Qj (hK _ _ (Qz (Q0 ?_))); clear hK K)
  refine QK [_] rfl (Qi (n := 5) rfl rfl (by with_reducible exact lCn) rfl QQ) rfl rfl
theorem goCount : InGo Tryz.prog 12 := InGo.of Tryz.func12 rfl (by decide)
set_option maxHeartbeats 4000000 in
theorem Count_ok (l : List Rs) (hl : l.length ≤ 10000) (w : Wr) (n : Int) : Ok Tryz.prog 12 [rssC l, wrC w, intC n] (.fr (tupT [cnC (cntF l w n).1, intC (cntF l w n).2])) := by
  have hX := Crosses_ok l hl w
  have hlen : ∀ b, (crsF l w b).length ≤ 10000 := fun b => by
    have := Zn cmpR (l.filter okR)
    have := List.length_filter_le okR l
    have := List.length_filter_le (fun r => decide (w ∈ wayF l r) && (r.an == b)) (sd cmpR (l.filter okR))
    unfold crsF; omega
  have e : cntF l w n = if n < 0 ∨ 1048576 < n then (cn0, 1) else if ¬ (crO l w).2.2 = 0 then (cn0, (crO l w).2.2) else (⟨w, ((crO l w).1.length : Int) + (crO l w).2.1.length, max 0 ((crO l w).2.1.length - n), (crO l w).2.1.length⟩, 0) := by
    unfold cntF crO
    by_cases h0 : n < 0 ∨ 1048576 < n
    · rw [if_pos h0, if_pos h0]
    rw [if_neg h0, if_neg h0]
    by_cases h1 : chkF l = 0
    · by_cases h2 : (crsF l w true).length + (crsF l w false).length = 0
      · simp only [ne_eq, h1, h2, not_true_eq_false, if_false, if_true, reduceIte]; rfl
      · simp only [ne_eq, h1, h2, not_true_eq_false, if_false, if_true, reduceIte, List.length_map]
    · simp only [ne_eq, h1, not_false_eq_true, if_true, reduceIte]
  have hl1 : (crO l w).1.length ≤ 10000 ∧ (crO l w).2.1.length ≤ 10000 := by
    unfold crO
    have h1 := hlen true
    have h2 := hlen false
    split
    · simp
    · split
      · simp
      · simp only [List.length_map]; exact ⟨h1, h2⟩
  generalize cntF l w n = out at e ⊢
  generalize crO l w = c at hX e hl1
  obtain ⟨s, t, c⟩ := c
  dsimp only at hX e hl1
  refine Ok.enter Tryz.func12 rfl _ Tryz.ntmps12 rfl ?_
  intro S w0
  refine Qw ?_
  refine Qq (fun K hK => ?_)
  refine Xk 0 rfl rfl rfl rfl rfl rfl rfl ?_
  refine Qg 1 rfl rfl (by with_reducible exact zvCn) rfl rfl rfl ?_
  (refine Qv rfl rfl rfl ?_; refine Qj (hK _ _ (Qz (Qw (Qw ?_)))); clear hK K; refine Qq (fun K hK => ?_); refine Qx rfl rfl rfl ?_; refine Qk ilss rfl rfl rfl rfl ?_; refine Qx rfl rfl rfl ?_)
  refine Q6 13 rfl (fun h1 => ?_) (fun h1 => ?_)
  · rw [if_pos (.inl h1)] at e
    (refine Qy rfl rfl rfl ?_; refine Qy rfl rfl rfl ?_; refine QZ rfl rfl rfl rfl ?_; refine Qj (hK _ _ (Qz (Qo rfl (Qw ?_)))); clear hK K; refine Qq (fun K hK => ?_))
    refine Qs rfl (by with_reducible exact bCn) rfl .nil rfl ?_
    (refine Qc 5 rfl rfl rfl rfl rfl (by with_reducible exact szCn) rfl rfl ?_; refine Qv rfl rfl rfl ?_; refine Qj (hK _ _ (Qz (Q0 (QY ?_)))); clear hK K)
    refine QK [_, _] rfl (Qi (n := 5) rfl rfl (by with_reducible exact lCn) rfl (Qu rfl QQ)) (by rw [e]; rfl) rfl
  (refine Qx rfl rfl rfl ?_; refine Qk igtr rfl rfl rfl rfl ?_; refine QU rfl rfl rfl rfl ?_; refine Qj (hK _ _ (Qz ?_)); clear hK K)
  refine Q2 rfl (fun h2 => ?_) (fun h2 => ?_)
  · rw [if_pos (.inr h2)] at e
    (refine Qw (Qq fun K hK => ?_))
    refine Qs rfl (by with_reducible exact bCn) rfl .nil rfl ?_
    (refine Qc 5 rfl rfl rfl rfl rfl (by with_reducible exact szCn) rfl rfl ?_; refine Qv rfl rfl rfl ?_; refine Qj (hK _ _ (Qz (Q0 (QY ?_)))); clear hK K)
    refine QK [_, _] rfl (Qi (n := 5) rfl rfl (by with_reducible exact lCn) rfl (Qu rfl QQ)) (by rw [e]; rfl) rfl
  rw [if_neg (fun h => h.elim h1 h2)] at e
  (refine Q1 (Qz (Qw (Qq fun K hK => ?_))); refine Qx rfl rfl rfl ?_; refine Q7 (n := 2) rfl rfl rfl rfl rfl (by with_reducible first | exact Yq | exact ZK | exact lCs) rfl ?_)
  refine QW goCrosses hX rfl rfl rfl rfl ?_
  (refine Qx rfl rfl rfl ?_; refine Qf rfl rfl rfl rfl ?_; refine Qf rfl rfl rfl rfl ?_; refine Qf rfl rfl rfl rfl ?_; refine Qv rfl rfl rfl ?_; refine Qv rfl rfl rfl ?_; refine Qv rfl rfl rfl ?_; refine Qj (hK _ _ (Qz (Qw (Qw ?_)))); clear hK K; refine Qq (fun K hK => ?_); refine Qx rfl rfl rfl ?_; refine Qk ineq rfl rfl rfl rfl ?_; refine Qj (hK _ _ (Qz ?_)); clear hK K)
  refine Q2 rfl (fun h3 => ?_) (fun h3 => ?_)
  · rw [if_pos h3] at e
    (refine Qw (Qq fun K hK => ?_))
    refine Qs rfl (by with_reducible exact bCn) rfl .nil rfl ?_
    (refine Qx rfl rfl rfl ?_; refine Qc 5 rfl rfl rfl rfl rfl (by with_reducible exact szCn) rfl rfl ?_; refine Qv rfl rfl rfl ?_; refine Qj (hK _ _ (Qz (Q0 (QY ?_)))); clear hK K)
    refine QK [_, _] rfl (Qi (n := 5) rfl rfl (by with_reducible exact lCn) rfl (Qu rfl QQ)) (by rw [e]; rfl) rfl
  rw [if_neg h3] at e
  (refine Q1 (Qz (Qw (Qq fun K hK => ?_))); refine Q7 (n := 2) rfl rfl rfl rfl rfl (by with_reducible first | exact Yq | exact ZK | exact lCs) rfl ?_; refine Qx rfl rfl rfl ?_; refine Qd rfl rfl (by with_reducible first | exact sTks.und | exact sWrs.und | exact sIks.und | exact sAdrs.und) (List.length_map ..) rfl ?_; refine Qx rfl rfl rfl ?_; refine Qd rfl rfl (by with_reducible first | exact sTks.und | exact sWrs.und | exact sIks.und | exact sAdrs.und) (List.length_map ..) rfl ?_; refine Qk (iadd (by omega) (by omega)) rfl rfl rfl rfl ?_; refine Qx rfl rfl rfl ?_; refine Qd rfl rfl (by with_reducible first | exact sTks.und | exact sWrs.und | exact sIks.und | exact sAdrs.und) (List.length_map ..) rfl ?_)
  refine Qs rfl (by with_reducible exact bCs) rfl (.one rfl rfl rfl rfl (.one rfl rfl rfl rfl .nil)) rfl ?_
  (refine Qx rfl rfl rfl ?_)
  refine QW gocounted (counted_ok w (s.length + t.length) t.length n (by omega) (by omega) (by omega)) rfl rfl rfl rfl ?_
  (refine Qc 5 rfl rfl rfl rfl rfl (by with_reducible exact szCn) rfl rfl ?_; refine Qv rfl rfl rfl ?_; refine Qj (hK _ _ (Qz (Q0 ?_))); clear hK K)
  refine QK [_, _] rfl (Qi (n := 5) rfl rfl (by with_reducible exact lCn) rfl (Qu rfl QQ)) (by rw [e]; rfl) rfl
theorem keyWrE : KeyT Tryz.prog 37 wrE := keyWr
theorem goAll : InGo Tryz.prog 17 := InGo.of Tryz.func17 rfl (by decide)
set_option maxHeartbeats 16000000 in
theorem All_ok (l : List Rs) (hl : l.length ≤ 10000) (n : Int) : Ok Tryz.prog 17 [rssC l, intC n] (.fr (tupT [cnsC (alO l n).1, intC (alO l n).2])) := by
  have hC := check_ok l hl
  have hT := Travel_ok l hl
  have hO := Order_ok l hl
  have hW := fun v hv r al hal => Way_ok l hl v hv r al hal
  have hwl := wayF_len l
  have e : alO l n = if n < 0 ∨ 1048576 < n then ([], 1) else if ¬ chkF l = 0 then ([], chkF l)
    else ((sd cmpW ((tickF (wayF l) (sd cmpR (l.filter okR))).map (·.1))).map (cnOf (tickF (wayF l) (sd cmpR (l.filter okR))) n), 0) := rfl
  have hol : (sd cmpR (l.filter okR)).length ≤ 10000 := by
    have := Zn cmpR (l.filter okR)
    have := List.length_filter_le okR l
    omega
  generalize chkF l = c at hC e
  generalize wayF l = wy at hW e hwl
  generalize sd cmpR (l.filter okR) = o at hO e hol
  generalize alO l n = out at e ⊢
  generalize owF l = om at hT hW
  refine Ok.enter Tryz.func17 rfl _ Tryz.ntmps17 rfl ?_
  intro S w0
  (refine Qw (Qq fun K hK => ?_); refine Qv rfl rfl rfl ?_; refine Qv rfl rfl rfl ?_; refine Qj (hK _ _ (Qz (Qw (Qw ?_)))); clear hK K; refine Qq (fun K hK => ?_); refine Qx rfl rfl rfl ?_; refine Qk ilss rfl rfl rfl rfl ?_; refine Qx rfl rfl rfl ?_)
  refine Q6 20 rfl (fun h1 => ?_) (fun h1 => ?_)
  · rw [if_pos (.inl h1)] at e
    (refine Qy rfl rfl rfl ?_; refine Qy rfl rfl rfl ?_; refine QZ rfl rfl rfl rfl ?_; refine Qj (hK _ _ (Qz (Qo rfl (Qw ?_)))); clear hK K; refine Qq (fun K hK => ?_); refine Qv rfl rfl rfl ?_; refine Qv rfl rfl rfl ?_; refine Qj (hK _ _ (Qz (Q0 (QY ?_)))); clear hK K)
    refine QK [_, _] rfl (XX Zx (Qu rfl (Qu rfl QQ))) (by rw [e]; rfl) rfl
  (refine Qx rfl rfl rfl ?_; refine Qk igtr rfl rfl rfl rfl ?_; refine QU rfl rfl rfl rfl ?_; refine Qj (hK _ _ (Qz ?_)); clear hK K)
  refine Q2 rfl (fun h2 => ?_) (fun h2 => ?_)
  · rw [if_pos (.inr h2)] at e
    (refine Qw (Qq fun K hK => ?_); refine Qv rfl rfl rfl ?_; refine Qv rfl rfl rfl ?_; refine Qj (hK _ _ (Qz (Q0 (QY ?_)))); clear hK K)
    refine QK [_, _] rfl (XX Zx (Qu rfl (Qu rfl QQ))) (by rw [e]; rfl) rfl
  rw [if_neg (fun h => h.elim h1 h2)] at e
  (refine Q1 (Qz (Qw (Qw (Qq fun K hK => ?_)))); refine Qx rfl rfl rfl ?_)
  refine QW gocheck hC rfl rfl rfl rfl ?_
  (refine Qv rfl rfl rfl ?_; refine Qj (hK _ _ (Qz (Qw ?_))); clear hK K; refine Qq (fun K hK => ?_); refine Qx rfl rfl rfl ?_; refine Qk ineq rfl rfl rfl rfl ?_; refine Qj (hK _ _ (Qz ?_)); clear hK K)
  refine Q2 rfl (fun h3 => ?_) (fun h3 => ?_)
  · rw [if_pos h3] at e
    (refine Qw (Qq fun K hK => ?_); refine Qx rfl rfl rfl ?_; refine Qv rfl rfl rfl ?_; refine Qv rfl rfl rfl ?_; refine Qj (hK _ _ (Qz (Q0 (QY ?_)))); clear hK K)
    refine QK [_, _] rfl (XX Zx (Qu rfl (Qu rfl QQ))) (by rw [e]; rfl) rfl
  rw [if_neg h3] at e
  (refine Q1 (Qz (Qw (Qq fun K hK => ?_))); refine Qx rfl rfl rfl ?_)
  refine Ops.callNew 8 gotravel hT rfl rfl rfl (fun _ h => h.elim) rfl rfl rfl (fun v hv => ?_)
  refine Qg 1 rfl rfl (by with_reducible exact zvTrav) rfl rfl rfl ?_
  refine Qc 2 rfl rfl rfl rfl (by show (true && (Value.oneCell' v && true)) = true; rw [hv]; rfl) (by with_reducible exact szTrav) rfl rfl ?_
  (refine Qj (hK _ _ (Qz (Qw ?_))); clear hK K; refine Qq (fun K hK => ?_))
  refine Zp 5 rfl rfl rfl rfl rfl (fun va hva => ?_)
  (refine Qv rfl rfl rfl ?_; refine Qj (hK _ _ (Qz (Qw (Qw ?_)))); clear hK K; refine Qq (fun K hK => ?_); refine Qx rfl rfl rfl ?_)
  refine Xp 3 goOrder hO rfl rfl rfl rfl rfl rfl ?_
  refine X2 3 _ rfl (Xn _ _) XZ ?_
  (refine Qd rfl rfl (by with_reducible exact sRes.und) (List.length_map ..) rfl ?_; refine Qx rfl rfl rfl ?_; refine Qj (hK _ _ (Qz (Q4 ?_))); clear hK K)
  refine Xj (α := Nat × KnM) (fun q => q.1 ≤ o.length ∧ knOk l q.2)
    (fun q => [(1, .ct (intC n)), (7, .own 1), (8, .ct (.ex va)), (33, .ct (rssC o)), (34, .ct (intC o.length)), (35, .ct (intC q.1))])
    (fun q => [(8, .mpx v (knM q.2)), (5, .mpx va (alKv (tickF wy (o.take q.1)))), (1, .box 94 [.fr (mapT (owM om)), .ex v])])
    (fun q => o.length - q.1) (0, []) ⟨Nat.zero_le _, fun _ _ h => by cases h⟩ (Entails.front 8 _ rfl <| by exact QX rfl ⟨rfl, rfl, rfl, rfl, rfl, rfl, trivial⟩) ?_
  intro ⟨i, m⟩ ⟨hi, hm⟩
  try dsimp only at hi hm ⊢
  (refine Qw (Qq fun K hK => ?_); refine Qk ilss rfl rfl rfl rfl ?_; refine Qj (hK _ _ (Qz (Qw ?_))); clear hK K)
  refine Q2 rfl (fun h => ?_) (fun h => ?_)
  · have e2 : (i : Int).toNat = i := Int.toNat_natCast i
    have hs : tickF wy (o.take (i + 1)) = tickR wy (tickF wy (o.take i)) (o.getD i rs0) := foldl_take (tickR wy) _ (by omega)
    have hbd := fun w => tick_bound wy w (o.take i)
    have htl : (o.take i).length ≤ 10000 := by rw [List.length_take]; omega
    (refine Q1 (Qz (Qw (Q4 (Qw (Qq fun K hK => ?_))))); refine Ql rfl rfl rfl (by with_reducible exact sRes) (by omega) (Z9 (by omega) (by omega)) rfl ?_; refine XW (n := 17) rfl rfl rfl (by with_reducible exact lRes) rfl rfl ?_; refine Qg 0 rfl rfl (by with_reducible exact zvRes) rfl rfl rfl ?_; refine Qc 17 rfl rfl rfl rfl rfl (by with_reducible exact szRes) rfl rfl ?_; refine Qj (hK _ _ (Qz (Qw ?_))); clear hK K; refine Qq (fun K hK => ?_))
    rw [e2]
    generalize o.getD i rs0 = x at hs
    have hwx := hwl x
    generalize tickF wy (o.take i) = M at hs hbd ⊢
    refine Zp 4 rfl rfl rfl rfl rfl (fun vc hvc => ?_)
    (refine Qv rfl rfl rfl ?_; refine Qj (hK _ _ (Qz (Qw ?_))); clear hK K; refine Qq (fun K hK => ?_); refine Q7 (n := 2) rfl rfl rfl rfl rfl (by with_reducible first | exact Yq | exact ZK | exact lCs) rfl ?_; refine Q7 (n := 17) rfl rfl rfl rfl rfl (by with_reducible exact lRes) rfl ?_)
    refine Ops.call1 (As := [travC om v, rsC x]) 8 goway (hW v hv x m hm) rfl rfl rfl (fun _ h => h.elim) rfl (fun p hp => absurd hp (by simp)) (fun q j hq => by rcases hq with hq | ⟨_, hq⟩ <;> cases hq) (fun m' hm' => ?_)
    (refine Qd rfl rfl (by with_reducible first | exact sTks.und | exact sWrs.und | exact sIks.und | exact sAdrs.und) (List.length_map ..) rfl ?_; refine Qx rfl rfl rfl ?_; refine Qj (hK _ _ (Qz (Q4 ?_))); clear hK K)
    refine Xj (α := Nat) (fun k => k ≤ (wy x).length)
      (fun k => [(1, .ct (intC n)), (7, .own 1), (8, .ct (.ex va)), (10, .own 0), (11, .ct (.ex vc)), (33, .ct (rssC o)), (34, .ct (intC o.length)), (35, .ct (intC i)), (42, .ct (wrsC (wy x))), (43, .ct (intC (wy x).length)), (44, .ct (intC k))])
      (fun k => [(8, .mpx v (knM m')), (4, .mpx vc (crKv (((wy x).take k).foldl (tickS x.an) (M, [])).2)), (0, .box 35 (rsCs x)), (5, .mpx va (alKv (((wy x).take k).foldl (tickS x.an) (M, [])).1)), (1, .box 94 [.fr (mapT (owM om)), .ex v])])
      (fun k => (wy x).length - k) 0 (Nat.zero_le _) (by exact QX rfl ⟨rfl, rfl, rfl, rfl, rfl, rfl, rfl, rfl, rfl, rfl, rfl, trivial⟩) ?_
    intro k hk
    try dsimp only at hk ⊢
    (refine Qw (Qq fun K hK => ?_); refine Qk ilss rfl rfl rfl rfl ?_; refine Qj (hK _ _ (Qz (Qw ?_))); clear hK K)
    refine Q2 rfl (fun h4 => ?_) (fun h4 => ?_)
    rotate_left
    · have hk' : k = (wy x).length := by omega
      have e4 : (((wy x).take k).foldl (tickS x.an) (M, [])).1 = tickR wy M x := by rw [hk', List.take_length]; rfl
      rw [e4]
      (refine Qp (Qz (Qq fun K hK => ?_)); refine Qk (iadd (by omega) (by omega)) rfl rfl rfl rfl ?_; refine Qx rfl rfl rfl ?_; refine Qj (hK _ _ (Q3 ?_)); clear hK K)
      refine Qn 4 ?_
      refine Qn 0 ?_
      refine Q9 (i + 1, m') (by dsimp only; omega) ⟨by dsimp only; omega, hm'⟩ (by dsimp only; rw [hs]; exact QX rfl ⟨rfl, rfl, rfl, rfl, rfl, by simp only [Int.natCast_add]; rfl, trivial⟩)
    have e5 : (k : Int).toNat = k := Int.toNat_natCast k
    have hst : ((wy x).take (k + 1)).foldl (tickS x.an) (M, []) = tickS x.an (((wy x).take k).foldl (tickS x.an) (M, [])) ((wy x).getD k wr0) := foldl_take (tickS x.an) _ (by omega)
    have hbs : ∀ w, 0 ≤ ((look1 (((wy x).take k).foldl (tickS x.an) (M, [])).1 w).getD (0, 0)).2 ∧ ((look1 (((wy x).take k).foldl (tickS x.an) (M, [])).1 w).getD (0, 0)).2 ≤ ((look1 (((wy x).take k).foldl (tickS x.an) (M, [])).1 w).getD (0, 0)).1 ∧ ((look1 (((wy x).take k).foldl (tickS x.an) (M, [])).1 w).getD (0, 0)).1 ≤ 10001 := fun w => by
      rw [tickS_look x.an w _ (M, []) (fun _ h => h)]
      dsimp only
      have h := hbd w
      split
      · simp only [Option.getD_some, tickV]
        split <;> omega
      · exact ⟨h.1, h.2.1, by have := h.2.2; omega⟩
    (refine Q1 (Qz (Qw (Q4 (Qw (Qq fun K hK => ?_))))))
    refine Ql rfl rfl rfl (by with_reducible exact sWrs) (by omega) (wrs_at (by omega) (by omega)) rfl ?_
    rw [e5]
    generalize (wy x).getD k wr0 = w at hst
    generalize ((wy x).take k).foldl (tickS x.an) (M, []) = s at hst hbs ⊢
    obtain ⟨s1, s2⟩ := s
    have ht : tickS x.an (s1, s2) w = if (look1 s2 w).getD false = true then (s1, s2) else (ins s1 w (tickV x.an ((look1 s1 w).getD (0, 0))), ins s2 w true) := rfl
    rw [ht] at hst
    clear ht
    dsimp only at hbs ⊢
    have hb := hbs w
    have hN : (look1 s2 w).getD false = true ∨ (look1 s2 w).getD false = false := by cases (look1 s2 w).getD false <;> simp
    refine XW (n := 2) rfl rfl rfl (by with_reducible exact ZK) rfl rfl ?_
    refine Qg 2 rfl rfl (by with_reducible exact zvWire) rfl rfl rfl ?_
    refine Qc 2 rfl rfl rfl rfl rfl (by with_reducible exact szWire) rfl rfl ?_
    (refine Qj (hK _ _ (Qz (Qw (Qw ?_)))); clear hK K; refine Qq (fun K hK => ?_); refine Qx rfl rfl rfl ?_; refine Q7 (n := 2) rfl rfl rfl rfl rfl (by with_reducible first | exact Yq | exact ZK | exact lCs) rfl ?_)
    refine Ops.lookM (i := 4) (cv := boolC) (enc := wrE) false w rfl rfl rfl rfl (KeyIs.agg (us := wr2 w) rfl) uMCr z0Bool (fun _ _ => rfl) keyWrE rfl ?_
    (refine Qj (hK _ _ (Qz ?_)); clear hK K)
    refine Xy rfl (fun h5 => ?_) (fun h5 => ?_)
    · rw [if_pos h5] at hst
      (refine Qp (Qz (Qq fun K hK => ?_)); refine Qk (iadd (by omega) (by omega)) rfl rfl rfl rfl ?_; refine Qx rfl rfl rfl ?_; refine Qj (hK _ _ (Q3 ?_)); clear hK K)
      refine Qn 2 ?_
      refine Q9 (k + 1) (by omega) (by omega) (by rw [hst]; exact QX rfl ⟨rfl, rfl, rfl, rfl, rfl, rfl, rfl, rfl, rfl, rfl, by simp only [Int.natCast_add]; rfl, trivial⟩)
    rw [if_neg (by rw [h5]; decide)] at hst
    (refine Q1 (Qz (Qw (Qq fun K hK => ?_))); refine Qx rfl rfl rfl ?_; refine Q7 (n := 2) rfl rfl rfl rfl rfl (by with_reducible first | exact Yq | exact ZK | exact lCs) rfl ?_)
    refine Xx (i := 4) (enc := wrE) (cv := boolC) w true rfl rfl rfl (KeyIs.agg (us := wr2 w) rfl) rfl uMCr keyWrE ?_
    (refine Qj (hK _ _ (Qz (Qw ?_))); clear hK K; refine Qq (fun K hK => ?_); refine Qx rfl rfl rfl ?_; refine Q7 (n := 2) rfl rfl rfl rfl rfl (by with_reducible first | exact Yq | exact ZK | exact lCs) rfl ?_)
    refine Ops.lookM (i := 5) (cv := csC) (enc := wrE) (0, 0) w rfl rfl rfl rfl (KeyIs.agg (us := wr2 w) rfl) uMAll z0Cs csZ keyWrE rfl ?_
    generalize (look1 s1 w).getD (0, 0) = cc at hst hb
    obtain ⟨c1, c2⟩ := cc
    dsimp only at hb
    unfold tickV at hst
    dsimp only at hst
    refine Qg 3 rfl rfl (by with_reducible exact zvCs) rfl rfl rfl ?_
    refine Qc 2 rfl rfl rfl rfl rfl (by with_reducible exact szCs) rfl rfl ?_
    (refine Qj (hK _ _ (Qz (Qw ?_))); clear hK K; refine Qq (fun K hK => ?_); refine QV rfl rfl rfl (by with_reducible first | exact fTk0 | exact fTk1 | exact fTk2 | exact fWr0 | exact fWr1 | exact X1 | exact X0 | exact Xm | exact fStm1 | exact fCn0 | exact fCn1 | exact fCn2 | exact fCn3 | exact fCs0 | exact fCs1) rfl ?_; refine QJ rfl rfl rfl rfl rfl (by with_reducible first | exact lInt | exact Qa | exact Q5 | exact lRess) rfl ?_; refine Qk (iadd (by omega) (by omega)) rfl rfl rfl rfl ?_; refine QV rfl rfl rfl (by with_reducible first | exact fTk0 | exact fTk1 | exact fTk2 | exact fWr0 | exact fWr1 | exact X1 | exact X0 | exact Xm | exact fStm1 | exact fCn0 | exact fCn1 | exact fCn2 | exact fCn3 | exact fCs0 | exact fCs1) rfl ?_; refine X6 rfl rfl rfl rfl rfl (by with_reducible first | exact zInt | exact zAddr | exact zClaims) (Nat.le_of_ble_eq_true rfl) ?_; refine Qj (hK _ _ (Qz (Qw (Qw ?_)))); clear hK K; refine Qq (fun K hK => ?_); refine QV rfl rfl rfl (by with_reducible first | exact fS0 | exact fS1 | exact fS2 | exact fS3 | exact fS4 | exact fS5 | exact fS6 | exact fS7 | exact fS8 | exact fS9 | exact fS10 | exact fS11 | exact fN0 | exact fN1 | exact fN2 | exact fN3 | exact fN4 | exact fN5) rfl ?_; refine QJ rfl rfl rfl rfl rfl (by with_reducible first | exact lInt | exact Qa | exact Q5 | exact lRess) rfl ?_; refine Qm rfl rfl rfl ?_; refine Qj (hK _ _ (Qz ?_)); clear hK K)
    refine Xy rfl (fun h6 => ?_) (fun h6 => ?_)
    · rw [if_neg (by simpa using h6)] at hst
      (refine Qq (fun K hK => ?_); refine QV rfl rfl rfl (by with_reducible first | exact fTk0 | exact fTk1 | exact fTk2 | exact fWr0 | exact fWr1 | exact X1 | exact X0 | exact Xm | exact fStm1 | exact fCn0 | exact fCn1 | exact fCn2 | exact fCn3 | exact fCs0 | exact fCs1) rfl ?_; refine QJ rfl rfl rfl rfl rfl (by with_reducible first | exact lInt | exact Qa | exact Q5 | exact lRess) rfl ?_; refine Qk (iadd (by omega) (by omega)) rfl rfl rfl rfl ?_; refine QV rfl rfl rfl (by with_reducible first | exact fTk0 | exact fTk1 | exact fTk2 | exact fWr0 | exact fWr1 | exact X1 | exact X0 | exact Xm | exact fStm1 | exact fCn0 | exact fCn1 | exact fCn2 | exact fCn3 | exact fCs0 | exact fCs1) rfl ?_; refine X6 rfl rfl rfl rfl rfl (by with_reducible first | exact zInt | exact zAddr | exact zClaims) (Nat.le_of_ble_eq_true rfl) ?_; refine Qj (hK _ _ (Qz ?_)); clear hK K; refine Qq (fun K hK => ?_); refine Qx rfl rfl rfl ?_; refine Q7 (n := 2) rfl rfl rfl rfl rfl (by with_reducible first | exact Yq | exact ZK | exact lCs) rfl ?_; refine Q7 (n := 2) rfl rfl rfl rfl rfl (by with_reducible first | exact Yq | exact ZK | exact lCs) rfl ?_)
      refine Xx (i := 5) (enc := wrE) (cv := csC) w (c1 + 1, c2 + 1) rfl rfl rfl (KeyIs.agg (us := wr2 w) rfl) rfl uMAll keyWrE ?_
      (refine Qj (hK _ _ (Qz ?_)); clear hK K; refine Qq (fun K hK => ?_); refine Qk (iadd (by omega) (by omega)) rfl rfl rfl rfl ?_; refine Qx rfl rfl rfl ?_; refine Qj (hK _ _ (Q3 ?_)); clear hK K)
      refine Qn 3 ?_
      refine Qn 2 ?_
      refine Q9 (k + 1) (by omega) (by omega) (by rw [hst]; exact QX rfl ⟨rfl, rfl, rfl, rfl, rfl, rfl, rfl, rfl, rfl, rfl, by simp only [Int.natCast_add]; rfl, trivial⟩)
    · rw [if_pos (by simpa using h6)] at hst
      (refine Q1 (Qz (Qq fun K hK => ?_)); refine Qx rfl rfl rfl ?_; refine Q7 (n := 2) rfl rfl rfl rfl rfl (by with_reducible first | exact Yq | exact ZK | exact lCs) rfl ?_; refine Q7 (n := 2) rfl rfl rfl rfl rfl (by with_reducible first | exact Yq | exact ZK | exact lCs) rfl ?_)
      refine Xx (i := 5) (enc := wrE) (cv := csC) w (c1 + 1, c2) rfl rfl rfl (KeyIs.agg (us := wr2 w) rfl) rfl uMAll keyWrE ?_
      (refine Qj (hK _ _ (Qz ?_)); clear hK K; refine Qq (fun K hK => ?_); refine Qk (iadd (by omega) (by omega)) rfl rfl rfl rfl ?_; refine Qx rfl rfl rfl ?_; refine Qj (hK _ _ (Q3 ?_)); clear hK K)
      refine Qn 3 ?_
      refine Qn 2 ?_
      refine Q9 (k + 1) (by omega) (by omega) (by rw [hst]; exact QX rfl ⟨rfl, rfl, rfl, rfl, rfl, rfl, rfl, rfl, rfl, rfl, by simp only [Int.natCast_add]; rfl, trivial⟩)
  have hi' : i = o.length := by omega
  rw [hi', List.take_length]
  have hMn : ((tickF wy o).map (·.1)).Nodup := tickF_nodup wy o [] List.nodup_nil
  have hMl := tickF_len wy 256 hwl o []
  have hMl : (tickF wy o).length ≤ 2560000 := by
    have h9 : (tickF wy o).length ≤ 0 + o.length * 256 := hMl
    omega
  have hbd := fun w => tick_bound wy w o
  have hsl : (sd cmpW ((tickF wy o).map (·.1))).length ≤ 2560000 := by
    have := Zn cmpW ((tickF wy o).map (·.1))
    rw [List.length_map] at this
    omega
  have hSW := SortedW_ok csC (tickF wy o) (by omega) hMn
  generalize sd cmpW ((tickF wy o).map (·.1)) = ws at e hSW hsl
  generalize tickF wy o = M at e hSW hbd ⊢
  refine St.frzMs 5 8 rfl rfl XZ ?_
  (refine Qp (Qz (Qw (Qq fun K hK => ?_))); refine Qv rfl rfl rfl ?_; refine Qj (hK _ _ (Qz (Qw (Qw ?_)))); clear hK K; refine Qq (fun K hK => ?_); refine Qx rfl rfl rfl ?_)
  refine QW goKeys (Keys_ok (alKv M)) rfl rfl rfl rfl ?_
  refine Xp 4 goSortedW hSW rfl rfl rfl rfl rfl rfl ?_
  refine X2 4 _ rfl (wrs_frozen _ _) XZ ?_
  (refine Qd rfl rfl (by with_reducible first | exact sTks.und | exact sWrs.und | exact sIks.und | exact sAdrs.und) (List.length_map ..) rfl ?_; refine Qx rfl rfl rfl ?_; refine Qj (hK _ _ (Qz (Q4 ?_))); clear hK K)
  refine Xe 15 7 39 5 rfl rfl rfl ?_
  refine Xj (α := Nat) (fun j => j ≤ ws.length)
    (fun j => [(1, .ct (intC n)), (8, .ct (.fr (mapT (alKv M)))), (15, .own 7), (74, .ct (wrsC ws)), (75, .ct (intC ws.length)), (76, .ct (intC j))])
    (fun j => [(7, .row 39 5 (cns ((ws.take j).map (cnOf M n)))), (8, .mpx v (knM m)), (1, .box 94 [.fr (mapT (owM om)), .ex v])])
    (fun j => ws.length - j) 0 (Nat.zero_le _) (by exact QX rfl ⟨rfl, rfl, rfl, rfl, rfl, rfl, trivial⟩) ?_
  intro j hj
  try dsimp only at hj ⊢
  (refine Qw (Qq fun K hK => ?_); refine Qk ilss rfl rfl rfl rfl ?_; refine Qj (hK _ _ (Qz (Qw ?_))); clear hK K)
  refine Q2 rfl (fun h4 => ?_) (fun h4 => ?_)
  · have e2 : (j : Int).toNat = j := Int.toNat_natCast j
    have hs : (ws.take (j + 1)).map (cnOf M n) = (ws.take j).map (cnOf M n) ++ [cnOf M n (ws.getD j wr0)] := by
      rw [List.take_add_one, List.getElem?_eq_getElem (by omega), List.getD_eq_getElem?_getD, List.getElem?_eq_getElem (by omega), List.map_append]; rfl
    have hlt : ((ws.take j).map (cnOf M n)).length = j := by rw [List.length_map, List.length_take]; omega
    (refine Q1 (Qz (Qw (Q4 (Qw (Qq fun K hK => ?_))))))
    refine Ql rfl rfl rfl (by with_reducible exact sWrs) (by omega) (wrs_at (by omega) (by omega)) rfl ?_
    rw [e2]
    generalize ws.getD j wr0 = w at hs
    generalize (ws.take j).map (cnOf M n) = q at hs hlt ⊢
    have hb := hbd w
    have hcn : cnOf M n w = ⟨w, ((look1 M w).getD (0, 0)).1, max 0 (((look1 M w).getD (0, 0)).2 - n), ((look1 M w).getD (0, 0)).2⟩ := rfl
    rw [hcn] at hs
    refine XW (n := 2) rfl rfl rfl (by with_reducible exact ZK) rfl rfl ?_
    refine Qg 2 rfl rfl (by with_reducible exact zvWire) rfl rfl rfl ?_
    refine Qc 2 rfl rfl rfl rfl rfl (by with_reducible exact szWire) rfl rfl ?_
    (refine Qj (hK _ _ (Qz ?_)); clear hK K)
    refine Xu (by with_reducible exact mixed) 8 (.p 0 (.p 2 (.p 5 (.fork 1 (.m 3 (.m 4 (.m 6 (.m 7 (.a 8 (.p 9 .done)))))) 3 (.fork 1 (.m 4 (.m 6 (.m 7 (.a 8 (.p 9 .done))))) 4 (.m 1 (.m 6 (.m 7 (.a 8 (.p 9 .done)))))))))) (by kernel_rfl) (fun K hK => ?_)
    (refine Qx rfl rfl rfl ?_; refine Qx rfl rfl rfl ?_; refine Qx rfl rfl rfl ?_)
    refine Yv ?_ ?_
    · (refine Q7 (n := 2) rfl rfl rfl rfl rfl (by with_reducible first | exact Yq | exact ZK | exact lCs) rfl ?_; refine Q7 (n := 2) rfl rfl rfl rfl rfl (by with_reducible first | exact Yq | exact ZK | exact lCs) rfl ?_)
      refine Ops.lookF (cv := csC) (enc := wrE) (0, 0) w rfl rfl rfl (KeyIs.agg (us := wr2 w) rfl) uMAll z0Cs csZ keyWrE rfl ?_
      skip
      refine QW gocounted (counted_ok w ((look1 M w).getD (0, 0)).1 ((look1 M w).getD (0, 0)).2 n (by omega) (by omega) (by omega)) rfl rfl rfl rfl ?_
      refine X4 (n := 5) rfl rfl (by with_reducible exact sCns) rfl rfl (by decide) rfl ?_
      refine Qt j (cns (q ++ [⟨w, ((look1 M w).getD (0, 0)).1, max 0 (((look1 M w).getD (0, 0)).2 - n), ((look1 M w).getD (0, 0)).2⟩])) rfl rfl rfl rfl (by with_reducible exact sCns) (by rw [cns_len, hlt]) rfl (by omega) (by omega) (cns_snoc _ _) rfl ?_
      (refine Qv rfl rfl rfl ?_; refine Qj (hK _ _ (Qz ?_)); clear hK K; refine Qq (fun K hK => ?_); refine Qk (iadd (by omega) (by omega)) rfl rfl rfl rfl ?_; refine Qx rfl rfl rfl ?_; refine Qj (hK _ _ (Q3 ?_)); clear hK K)
      refine Qn 2 ?_
      refine Q9 (j + 1) (by omega) (by omega) (by rw [hs]; exact QX rfl ⟨rfl, rfl, rfl, rfl, rfl, by simp only [Int.natCast_add]; rfl, trivial⟩)
    · (refine Q7 (n := 2) rfl rfl rfl rfl rfl (by with_reducible first | exact Yq | exact ZK | exact lCs) rfl ?_)
      refine Yv ?_ ?_
      · (refine Q7 (n := 2) rfl rfl rfl rfl rfl (by with_reducible first | exact Yq | exact ZK | exact lCs) rfl ?_)
        refine Ops.lookF (cv := csC) (enc := wrE) (0, 0) w rfl rfl rfl (KeyIs.agg (us := wr2 w) rfl) uMAll z0Cs csZ keyWrE rfl ?_
        skip
        refine QW gocounted (counted_ok w ((look1 M w).getD (0, 0)).1 ((look1 M w).getD (0, 0)).2 n (by omega) (by omega) (by omega)) rfl rfl rfl rfl ?_
        refine X4 (n := 5) rfl rfl (by with_reducible exact sCns) rfl rfl (by decide) rfl ?_
        refine Qt j (cns (q ++ [⟨w, ((look1 M w).getD (0, 0)).1, max 0 (((look1 M w).getD (0, 0)).2 - n), ((look1 M w).getD (0, 0)).2⟩])) rfl rfl rfl rfl (by with_reducible exact sCns) (by rw [cns_len, hlt]) rfl (by omega) (by omega) (cns_snoc _ _) rfl ?_
        (refine Qv rfl rfl rfl ?_; refine Qj (hK _ _ (Qz ?_)); clear hK K; refine Qq (fun K hK => ?_); refine Qk (iadd (by omega) (by omega)) rfl rfl rfl rfl ?_; refine Qx rfl rfl rfl ?_; refine Qj (hK _ _ (Q3 ?_)); clear hK K)
        refine Qn 2 ?_
        refine Q9 (j + 1) (by omega) (by omega) (by rw [hs]; exact QX rfl ⟨rfl, rfl, rfl, rfl, rfl, by simp only [Int.natCast_add]; rfl, trivial⟩)
      · skip
        refine Ops.lookF (cv := csC) (enc := wrE) (0, 0) w rfl rfl rfl (KeyIs.agg (us := wr2 w) rfl) uMAll z0Cs csZ keyWrE rfl ?_
        (refine Q7 (n := 2) rfl rfl rfl rfl rfl (by with_reducible first | exact Yq | exact ZK | exact lCs) rfl ?_)
        refine QW gocounted (counted_ok w ((look1 M w).getD (0, 0)).1 ((look1 M w).getD (0, 0)).2 n (by omega) (by omega) (by omega)) rfl rfl rfl rfl ?_
        refine X4 (n := 5) rfl rfl (by with_reducible exact sCns) rfl rfl (by decide) rfl ?_
        refine Qt j (cns (q ++ [⟨w, ((look1 M w).getD (0, 0)).1, max 0 (((look1 M w).getD (0, 0)).2 - n), ((look1 M w).getD (0, 0)).2⟩])) rfl rfl rfl rfl (by with_reducible exact sCns) (by rw [cns_len, hlt]) rfl (by omega) (by omega) (cns_snoc _ _) rfl ?_
        (refine Qv rfl rfl rfl ?_; refine Qj (hK _ _ (Qz ?_)); clear hK K; refine Qq (fun K hK => ?_); refine Qk (iadd (by omega) (by omega)) rfl rfl rfl rfl ?_; refine Qx rfl rfl rfl ?_; refine Qj (hK _ _ (Q3 ?_)); clear hK K)
        refine Qn 2 ?_
        refine Q9 (j + 1) (by omega) (by omega) (by rw [hs]; exact QX rfl ⟨rfl, rfl, rfl, rfl, rfl, by simp only [Int.natCast_add]; rfl, trivial⟩)
  have hj' : j = ws.length := by omega
  rw [hj', List.take_length]
  generalize ws.map (cnOf M n) = r at e ⊢
  (refine Qp (Qz (Qw (Qq fun K hK => ?_))); refine Qx rfl rfl rfl ?_; refine Qv rfl rfl rfl ?_; refine Qv rfl rfl rfl ?_; refine Qj (hK _ _ (Qz (Q0 ?_))); clear hK K)
  refine Z6 7 _ rfl (cns_frozen _ _) XZ ?_
  refine QK [_, _] rfl (Qu rfl (Qu rfl QQ)) (by rw [e]; rfl) rfl
def frZ : Fr := ⟨false, 0, 0⟩
def rateC (c : Cn) : CT := if c.lo < 0 ∨ c.hi < c.lo ∨ c.se < c.hi ∨ c.se < 1 then .fr (tupT [fracC frZ, fracC frZ, intC 1]) else .fr (tupT [ratC (Rat.divInt c.lo c.se), ratC (Rat.divInt c.hi c.se), intC 0])
theorem goRate : InGo Tryz.prog 19 := InGo.of Tryz.func19 rfl (by decide)
set_option maxHeartbeats 8000000 in
theorem Rate_ok (c : Cn) (h1 : -9223372036854775808 ≤ c.lo ∧ c.lo < 9223372036854775808) (h2 : -9223372036854775808 ≤ c.hi ∧ c.hi < 9223372036854775808) (h3 : -9223372036854775808 ≤ c.se ∧ c.se < 1073741824) : Ok Tryz.prog 19 [cnC c] (rateC c) := by
  have e : rateC c = if c.lo < 0 ∨ c.hi < c.lo ∨ c.se < c.hi ∨ c.se < 1 then .fr (tupT [fracC frZ, fracC frZ, intC 1]) else .fr (tupT [ratC (Rat.divInt c.lo c.se), ratC (Rat.divInt c.hi c.se), intC 0]) := rfl
  generalize rateC c = out at e ⊢
  refine Ok.enter Tryz.func19 rfl _ Tryz.ntmps19 rfl ?_
  intro S w0
  refine Qw ?_
  refine Qq (fun K hK => ?_)
  refine Xk 0 rfl rfl rfl rfl rfl rfl rfl ?_
  refine Qg 1 rfl rfl (by with_reducible exact zvFrac) rfl rfl rfl ?_
  refine Qg 2 rfl rfl (by with_reducible exact zvFrac) rfl rfl rfl ?_
  (refine Qv rfl rfl rfl ?_; refine Qj (hK _ _ (Qz (Qw (Qw ?_)))); clear hK K; refine Qq (fun K hK => ?_); refine QV rfl rfl rfl (by with_reducible first | exact fTk0 | exact fTk1 | exact fTk2 | exact fWr0 | exact fWr1 | exact X1 | exact X0 | exact Xm | exact fStm1 | exact fCn0 | exact fCn1 | exact fCn2 | exact fCn3 | exact fCs0 | exact fCs1) rfl ?_; refine QJ rfl rfl rfl rfl rfl (by with_reducible first | exact lInt | exact Qa | exact Q5 | exact lRess) rfl ?_; refine Qk ilss rfl rfl rfl rfl ?_; refine Qx rfl rfl rfl ?_)
  refine Q6 8 rfl (fun g1 => ?_) (fun g1 => ?_)
  · rw [if_pos (.inl g1)] at e
    (refine Qy rfl rfl rfl ?_; refine Qy rfl rfl rfl ?_; refine Qy rfl rfl rfl ?_; refine Qy rfl rfl rfl ?_; refine Qy rfl rfl rfl ?_; refine QZ rfl rfl rfl rfl ?_; refine Qx rfl rfl rfl ?_; refine Qy rfl rfl rfl ?_; refine Qy rfl rfl rfl ?_; refine Qy rfl rfl rfl ?_; refine Qy rfl rfl rfl ?_; refine Qy rfl rfl rfl ?_; refine QZ rfl rfl rfl rfl ?_; refine Qx rfl rfl rfl ?_; refine Qy rfl rfl rfl ?_; refine Qy rfl rfl rfl ?_; refine Qy rfl rfl rfl ?_; refine QZ rfl rfl rfl rfl ?_; refine Qj (hK _ _ (Qz (Qo rfl (Qw ?_)))); clear hK K; refine Qq (fun K hK => ?_))
    refine Qs rfl (by with_reducible exact bFrac) rfl .nil rfl ?_
    refine Qs rfl (by with_reducible exact bFrac) rfl .nil rfl ?_
    refine Qc 3 rfl rfl rfl rfl rfl (by with_reducible exact szFrac) rfl rfl ?_
    refine Qc 3 rfl rfl rfl rfl rfl (by with_reducible exact szFrac) rfl rfl ?_
    (refine Qv rfl rfl rfl ?_; refine Qj (hK _ _ (Qz (Q0 (QY ?_)))); clear hK K)
    refine QK [_, _, _] rfl (XX (w_agg (ds := [boolC false, intsC [], intsC []]) (by exact ⟨w_same, Zx, Zx, trivial⟩)) (Qi (n := 3) rfl rfl (by with_reducible exact Zc) rfl (XX (w_agg (ds := [boolC false, intsC [], intsC []]) (by exact ⟨w_same, Zx, Zx, trivial⟩)) (Qi (n := 3) rfl rfl (by with_reducible exact Zc) rfl (Qu rfl QQ))))) (by rw [e]; show CT.fr (tupT [.fr (aggT [boolC false, intsC (limbs 0), intsC (limbs 0)]), .fr (aggT [boolC false, intsC (limbs 0), intsC (limbs 0)]), intC 1]) = _; rw [limbs_zero]; rfl) rfl
  (refine QV rfl rfl rfl (by with_reducible first | exact fTk0 | exact fTk1 | exact fTk2 | exact fWr0 | exact fWr1 | exact X1 | exact X0 | exact Xm | exact fStm1 | exact fCn0 | exact fCn1 | exact fCn2 | exact fCn3 | exact fCs0 | exact fCs1) rfl ?_; refine QJ rfl rfl rfl rfl rfl (by with_reducible first | exact lInt | exact Qa | exact Q5 | exact lRess) rfl ?_; refine QV rfl rfl rfl (by with_reducible first | exact fTk0 | exact fTk1 | exact fTk2 | exact fWr0 | exact fWr1 | exact X1 | exact X0 | exact Xm | exact fStm1 | exact fCn0 | exact fCn1 | exact fCn2 | exact fCn3 | exact fCs0 | exact fCs1) rfl ?_; refine QJ rfl rfl rfl rfl rfl (by with_reducible first | exact lInt | exact Qa | exact Q5 | exact lRess) rfl ?_; refine Qk igtr rfl rfl rfl rfl ?_; refine QU rfl rfl rfl rfl ?_; refine Qx rfl rfl rfl ?_)
  refine Q6 15 rfl (fun g2 => ?_) (fun g2 => ?_)
  · rw [if_pos (.inr (.inl g2))] at e
    (refine Qy rfl rfl rfl ?_; refine Qy rfl rfl rfl ?_; refine Qy rfl rfl rfl ?_; refine Qy rfl rfl rfl ?_; refine Qy rfl rfl rfl ?_; refine QZ rfl rfl rfl rfl ?_; refine Qx rfl rfl rfl ?_; refine Qy rfl rfl rfl ?_; refine Qy rfl rfl rfl ?_; refine Qy rfl rfl rfl ?_; refine QZ rfl rfl rfl rfl ?_; refine Qj (hK _ _ (Qz (Qo rfl (Qw ?_)))); clear hK K; refine Qq (fun K hK => ?_))
    refine Qs rfl (by with_reducible exact bFrac) rfl .nil rfl ?_
    refine Qs rfl (by with_reducible exact bFrac) rfl .nil rfl ?_
    refine Qc 3 rfl rfl rfl rfl rfl (by with_reducible exact szFrac) rfl rfl ?_
    refine Qc 3 rfl rfl rfl rfl rfl (by with_reducible exact szFrac) rfl rfl ?_
    (refine Qv rfl rfl rfl ?_; refine Qj (hK _ _ (Qz (Q0 (QY ?_)))); clear hK K)
    refine QK [_, _, _] rfl (XX (w_agg (ds := [boolC false, intsC [], intsC []]) (by exact ⟨w_same, Zx, Zx, trivial⟩)) (Qi (n := 3) rfl rfl (by with_reducible exact Zc) rfl (XX (w_agg (ds := [boolC false, intsC [], intsC []]) (by exact ⟨w_same, Zx, Zx, trivial⟩)) (Qi (n := 3) rfl rfl (by with_reducible exact Zc) rfl (Qu rfl QQ))))) (by rw [e]; show CT.fr (tupT [.fr (aggT [boolC false, intsC (limbs 0), intsC (limbs 0)]), .fr (aggT [boolC false, intsC (limbs 0), intsC (limbs 0)]), intC 1]) = _; rw [limbs_zero]; rfl) rfl
  (refine QV rfl rfl rfl (by with_reducible first | exact fTk0 | exact fTk1 | exact fTk2 | exact fWr0 | exact fWr1 | exact X1 | exact X0 | exact Xm | exact fStm1 | exact fCn0 | exact fCn1 | exact fCn2 | exact fCn3 | exact fCs0 | exact fCs1) rfl ?_; refine QJ rfl rfl rfl rfl rfl (by with_reducible first | exact lInt | exact Qa | exact Q5 | exact lRess) rfl ?_; refine QV rfl rfl rfl (by with_reducible first | exact fTk0 | exact fTk1 | exact fTk2 | exact fWr0 | exact fWr1 | exact X1 | exact X0 | exact Xm | exact fStm1 | exact fCn0 | exact fCn1 | exact fCn2 | exact fCn3 | exact fCs0 | exact fCs1) rfl ?_; refine QJ rfl rfl rfl rfl rfl (by with_reducible first | exact lInt | exact Qa | exact Q5 | exact lRess) rfl ?_; refine Qk igtr rfl rfl rfl rfl ?_; refine QU rfl rfl rfl rfl ?_; refine Qx rfl rfl rfl ?_)
  refine Q6 22 rfl (fun g3 => ?_) (fun g3 => ?_)
  · rw [if_pos (.inr (.inr (.inl g3)))] at e
    (refine Qy rfl rfl rfl ?_; refine Qy rfl rfl rfl ?_; refine Qy rfl rfl rfl ?_; refine QZ rfl rfl rfl rfl ?_; refine Qj (hK _ _ (Qz (Qo rfl (Qw ?_)))); clear hK K; refine Qq (fun K hK => ?_))
    refine Qs rfl (by with_reducible exact bFrac) rfl .nil rfl ?_
    refine Qs rfl (by with_reducible exact bFrac) rfl .nil rfl ?_
    refine Qc 3 rfl rfl rfl rfl rfl (by with_reducible exact szFrac) rfl rfl ?_
    refine Qc 3 rfl rfl rfl rfl rfl (by with_reducible exact szFrac) rfl rfl ?_
    (refine Qv rfl rfl rfl ?_; refine Qj (hK _ _ (Qz (Q0 (QY ?_)))); clear hK K)
    refine QK [_, _, _] rfl (XX (w_agg (ds := [boolC false, intsC [], intsC []]) (by exact ⟨w_same, Zx, Zx, trivial⟩)) (Qi (n := 3) rfl rfl (by with_reducible exact Zc) rfl (XX (w_agg (ds := [boolC false, intsC [], intsC []]) (by exact ⟨w_same, Zx, Zx, trivial⟩)) (Qi (n := 3) rfl rfl (by with_reducible exact Zc) rfl (Qu rfl QQ))))) (by rw [e]; show CT.fr (tupT [.fr (aggT [boolC false, intsC (limbs 0), intsC (limbs 0)]), .fr (aggT [boolC false, intsC (limbs 0), intsC (limbs 0)]), intC 1]) = _; rw [limbs_zero]; rfl) rfl
  (refine QV rfl rfl rfl (by with_reducible first | exact fTk0 | exact fTk1 | exact fTk2 | exact fWr0 | exact fWr1 | exact X1 | exact X0 | exact Xm | exact fStm1 | exact fCn0 | exact fCn1 | exact fCn2 | exact fCn3 | exact fCs0 | exact fCs1) rfl ?_; refine QJ rfl rfl rfl rfl rfl (by with_reducible first | exact lInt | exact Qa | exact Q5 | exact lRess) rfl ?_; refine Qk ilss rfl rfl rfl rfl ?_; refine QU rfl rfl rfl rfl ?_; refine Qj (hK _ _ (Qz ?_)); clear hK K)
  refine Q2 rfl (fun g4 => ?_) (fun g4 => ?_)
  · rw [if_pos (.inr (.inr (.inr g4)))] at e
    (refine Qw (Qq fun K hK => ?_))
    refine Qs rfl (by with_reducible exact bFrac) rfl .nil rfl ?_
    refine Qs rfl (by with_reducible exact bFrac) rfl .nil rfl ?_
    refine Qc 3 rfl rfl rfl rfl rfl (by with_reducible exact szFrac) rfl rfl ?_
    refine Qc 3 rfl rfl rfl rfl rfl (by with_reducible exact szFrac) rfl rfl ?_
    (refine Qv rfl rfl rfl ?_; refine Qj (hK _ _ (Qz (Q0 (QY ?_)))); clear hK K)
    refine QK [_, _, _] rfl (XX (w_agg (ds := [boolC false, intsC [], intsC []]) (by exact ⟨w_same, Zx, Zx, trivial⟩)) (Qi (n := 3) rfl rfl (by with_reducible exact Zc) rfl (XX (w_agg (ds := [boolC false, intsC [], intsC []]) (by exact ⟨w_same, Zx, Zx, trivial⟩)) (Qi (n := 3) rfl rfl (by with_reducible exact Zc) rfl (Qu rfl QQ))))) (by rw [e]; show CT.fr (tupT [.fr (aggT [boolC false, intsC (limbs 0), intsC (limbs 0)]), .fr (aggT [boolC false, intsC (limbs 0), intsC (limbs 0)]), intC 1]) = _; rw [limbs_zero]; rfl) rfl
  rw [if_neg (fun h => h.elim g1 (fun h => h.elim g2 (fun h => h.elim g3 g4)))] at e
  have hF1 := FFrom_ok c.lo c.se (by omega) (by omega) (by omega) (by omega) (by omega)
  have hF2 := FFrom_ok c.hi c.se (by omega) (by omega) (by omega) (by omega) (by omega)
  (refine Q1 (Qz (Qw (Qq fun K hK => ?_))); refine QV rfl rfl rfl (by with_reducible first | exact fTk0 | exact fTk1 | exact fTk2 | exact fWr0 | exact fWr1 | exact X1 | exact X0 | exact Xm | exact fStm1 | exact fCn0 | exact fCn1 | exact fCn2 | exact fCn3 | exact fCs0 | exact fCs1) rfl ?_; refine QJ rfl rfl rfl rfl rfl (by with_reducible first | exact lInt | exact Qa | exact Q5 | exact lRess) rfl ?_; refine QV rfl rfl rfl (by with_reducible first | exact fTk0 | exact fTk1 | exact fTk2 | exact fWr0 | exact fWr1 | exact X1 | exact X0 | exact Xm | exact fStm1 | exact fCn0 | exact fCn1 | exact fCn2 | exact fCn3 | exact fCs0 | exact fCs1) rfl ?_; refine QJ rfl rfl rfl rfl rfl (by with_reducible first | exact lInt | exact Qa | exact Q5 | exact lRess) rfl ?_)
  refine QW goFFrom hF1 rfl rfl rfl rfl ?_
  (refine Qx rfl rfl rfl ?_; refine Qf rfl rfl rfl rfl ?_; refine Qf rfl rfl rfl rfl ?_)
  refine Qc 3 rfl rfl rfl rfl rfl (by with_reducible exact szFrac) rfl rfl ?_
  (refine Qj (hK _ _ (Qz (Qw ?_))); clear hK K; refine Qq (fun K hK => ?_); refine QV rfl rfl rfl (by with_reducible first | exact fTk0 | exact fTk1 | exact fTk2 | exact fWr0 | exact fWr1 | exact X1 | exact X0 | exact Xm | exact fStm1 | exact fCn0 | exact fCn1 | exact fCn2 | exact fCn3 | exact fCs0 | exact fCs1) rfl ?_; refine QJ rfl rfl rfl rfl rfl (by with_reducible first | exact lInt | exact Qa | exact Q5 | exact lRess) rfl ?_; refine QV rfl rfl rfl (by with_reducible first | exact fTk0 | exact fTk1 | exact fTk2 | exact fWr0 | exact fWr1 | exact X1 | exact X0 | exact Xm | exact fStm1 | exact fCn0 | exact fCn1 | exact fCn2 | exact fCn3 | exact fCs0 | exact fCs1) rfl ?_; refine QJ rfl rfl rfl rfl rfl (by with_reducible first | exact lInt | exact Qa | exact Q5 | exact lRess) rfl ?_)
  refine QW goFFrom hF2 rfl rfl rfl rfl ?_
  (refine Qx rfl rfl rfl ?_; refine Qf rfl rfl rfl rfl ?_; refine Qf rfl rfl rfl rfl ?_)
  refine Qc 3 rfl rfl rfl rfl rfl (by with_reducible exact szFrac) rfl rfl ?_
  (refine Qj (hK _ _ (Qz (Qw ?_))); clear hK K)
  refine St.drawQ (by with_reducible exact mixed) [2, 3] (.f 0 (.m 1 (.a 2 (.a 3 (.p 4 .done) .non) .non) (.a 2 (.f 1 (.a 3 (.p 4 .done) .non)) .non))) (by kernel_rfl) (fun K hK => ?_)
  refine Xr ?_
  refine Q7 (n := 3) rfl rfl rfl rfl rfl (by with_reducible exact Zc) rfl ?_
  refine Qj ?_
  refine Xo ?_ ?_
  · refine Q7 (n := 3) rfl rfl rfl rfl rfl (by with_reducible exact Zc) rfl ?_
    refine Qj ?_
    refine XV ?_ Qr
    refine Qc 3 rfl rfl rfl rfl rfl (by with_reducible exact szFrac) rfl rfl ?_
    refine Qj ?_
    refine XV ?_ Qr
    refine Qc 3 rfl rfl rfl rfl rfl (by with_reducible exact szFrac) rfl rfl ?_
    refine Qj ?_
    refine YY ?_
    refine Qv rfl rfl rfl ?_
    refine Qj ?_
    refine XY (hK _ _ ?_)
    (refine Qz (Q0 ?_))
    refine QK [_, _, _] rfl (Qi (n := 3) rfl rfl (by with_reducible exact Zc) rfl (Qi (n := 3) rfl rfl (by with_reducible exact Zc) rfl (Qu rfl QQ))) (by rw [e]; rfl) rfl
  refine XV ?_ Qr
  refine Qc 3 rfl rfl rfl rfl rfl (by with_reducible exact szFrac) rfl rfl ?_
  refine Qj ?_
  refine Xr ?_
  refine Q7 (n := 3) rfl rfl rfl rfl rfl (by with_reducible exact Zc) rfl ?_
  refine Qj ?_
  refine XV ?_ Qr
  refine Qc 3 rfl rfl rfl rfl rfl (by with_reducible exact szFrac) rfl rfl ?_
  refine Qj ?_
  refine YY ?_
  refine Qv rfl rfl rfl ?_
  refine Qj ?_
  refine XY (hK _ _ ?_)
  (refine Qz (Q0 ?_))
  refine QK [_, _, _] rfl (Qi (n := 3) rfl rfl (by with_reducible exact Zc) rfl (Qi (n := 3) rfl rfl (by with_reducible exact Zc) rfl (Qu rfl QQ))) (by rw [e]; rfl) rfl
end Go.Proofs.YtlkdkbdgnjcopaaGreat
namespace Go.Proofs.YtlkdkbdgnjcopaaGreat
open Go.Own Go.Limbs
attribute [local irreducible] St Ops Go.Own.Fin Ok OkB OkN wpA
def eqFr (f g : Fr) : Bool := decide (f.neg = g.neg ∧ limbs f.num = limbs g.num ∧ limbs f.den = limbs g.den)
theorem eqFr_self (f : Fr) : eqFr f f = true := decide_eq_true ⟨rfl, rfl, rfl⟩
theorem ext_getD {xs ys : List Int} (hl : xs.length = ys.length) (h : ∀ j, j < xs.length → xs.getD j 0 = ys.getD j 0) : xs = ys := by
  refine List.ext_getElem hl fun j h1 h2 => ?_
  have := h j h1
  simpa [List.getD_eq_getElem?_getD, List.getElem?_eq_getElem h1, List.getElem?_eq_getElem h2] using this
theorem goEqual : InGo Tryz.prog 34 := InGo.of Tryz.func34 rfl (by decide)
set_option maxHeartbeats 4000000 in
theorem Equal_ok (f g : Fr) (hn : (limbs f.num).length ≤ 1000) (hd : (limbs f.den).length ≤ 1000) (hn2 : (limbs g.num).length ≤ 1000) (hd2 : (limbs g.den).length ≤ 1000) : Ok Tryz.prog 34 [fracC f, fracC g] (boolC (eqFr f g)) := by
  have no1 : f.neg ≠ g.neg → eqFr f g = false := fun h => decide_eq_false fun e => h e.1
  have no2 : limbs f.num ≠ limbs g.num → eqFr f g = false := fun h => decide_eq_false fun e => h e.2.1
  have no3 : limbs f.den ≠ limbs g.den → eqFr f g = false := fun h => decide_eq_false fun e => h e.2.2
  have yes : f.neg = g.neg → limbs f.num = limbs g.num → limbs f.den = limbs g.den → eqFr f g = true := fun h1 h2 h3 => decide_eq_true ⟨h1, h2, h3⟩
  generalize eqFr f g = e at no1 no2 no3 yes ⊢
  refine Ok.enter Tryz.func34 rfl _ Tryz.ntmps34 rfl ?_
  intro S w
  (refine Qw (Qq fun K hK => ?_); refine Xk 0 rfl rfl rfl rfl rfl rfl rfl ?_; refine Xk 1 rfl rfl rfl rfl rfl rfl rfl ?_; refine Qv rfl rfl rfl ?_; refine Qj (hK _ _ (Qz (Qw (Qw ?_)))); clear hK K; refine Qq (fun K hK => ?_); refine QV rfl rfl rfl (by with_reducible first | exact fF0 | exact fF1 | exact fF2 | exact fR0 | exact fR1) rfl ?_; refine QJ rfl rfl rfl rfl rfl (by with_reducible first | exact lInt | exact lNat | exact lBool | exact lInts) rfl ?_; refine QV rfl rfl rfl (by with_reducible first | exact fF0 | exact fF1 | exact fF2 | exact fR0 | exact fR1) rfl ?_; refine QJ rfl rfl rfl rfl rfl (by with_reducible first | exact lInt | exact lNat | exact lBool | exact lInts) rfl ?_)
  refine Ops.bne rfl rfl rfl (by with_reducible exact uBool) rfl ?_
  (refine Qx rfl rfl rfl ?_)
  refine Q6 12 rfl (fun h1 => ?_) (fun h1 => ?_)
  · (refine Qy rfl rfl rfl ?_; refine Qy rfl rfl rfl ?_; refine Qy rfl rfl rfl ?_; refine Qy rfl rfl rfl ?_; refine Qy rfl rfl rfl ?_; refine Qy rfl rfl rfl ?_; refine Qy rfl rfl rfl ?_; refine QZ rfl rfl rfl rfl ?_; refine Qx rfl rfl rfl ?_; refine Qy rfl rfl rfl ?_; refine Qy rfl rfl rfl ?_; refine Qy rfl rfl rfl ?_; refine Qy rfl rfl rfl ?_; refine Qy rfl rfl rfl ?_; refine Qy rfl rfl rfl ?_; refine Qy rfl rfl rfl ?_; refine QZ rfl rfl rfl rfl ?_; refine Qj (hK _ _ (Qz (Qo rfl (Qw ?_)))); clear hK K; refine Qq (fun K hK => ?_); refine Qv rfl rfl rfl ?_; refine Qj (hK _ _ (Qz (Q0 (QY ?_)))); clear hK K)
    refine QK [_] rfl (Qu rfl QQ) (by rw [no1 h1]; rfl) rfl
  have h1 : f.neg = g.neg := Decidable.byContradiction h1
  (refine QV rfl rfl rfl (by with_reducible first | exact fF0 | exact fF1 | exact fF2 | exact fR0 | exact fR1) rfl ?_; refine QJ rfl rfl rfl rfl rfl (by with_reducible first | exact lInt | exact lNat | exact lBool | exact lInts) rfl ?_; refine Qd rfl rfl (by with_reducible first | exact sNat.und | exact sInts.und) (List.length_map ..) rfl ?_; refine QV rfl rfl rfl (by with_reducible first | exact fF0 | exact fF1 | exact fF2 | exact fR0 | exact fR1) rfl ?_; refine QJ rfl rfl rfl rfl rfl (by with_reducible first | exact lInt | exact lNat | exact lBool | exact lInts) rfl ?_; refine Qd rfl rfl (by with_reducible first | exact sNat.und | exact sInts.und) (List.length_map ..) rfl ?_; refine Qk ineq rfl rfl rfl rfl ?_; refine QU rfl rfl rfl rfl ?_; refine Qx rfl rfl rfl ?_)
  refine Q6 21 rfl (fun h2 => ?_) (fun h2 => ?_)
  · (refine Qy rfl rfl rfl ?_; refine Qy rfl rfl rfl ?_; refine Qy rfl rfl rfl ?_; refine Qy rfl rfl rfl ?_; refine Qy rfl rfl rfl ?_; refine Qy rfl rfl rfl ?_; refine Qy rfl rfl rfl ?_; refine QZ rfl rfl rfl rfl ?_; refine Qj (hK _ _ (Qz (Qo rfl (Qw ?_)))); clear hK K; refine Qq (fun K hK => ?_); refine Qv rfl rfl rfl ?_; refine Qj (hK _ _ (Qz (Q0 (QY ?_)))); clear hK K)
    refine QK [_] rfl (Qu rfl QQ) (by rw [no2 (fun h => h2 (by rw [h]))]; rfl) rfl
  have h2 : (limbs f.num).length = (limbs g.num).length := by
    have := Decidable.byContradiction h2
    omega
  (refine QV rfl rfl rfl (by with_reducible first | exact fF0 | exact fF1 | exact fF2 | exact fR0 | exact fR1) rfl ?_; refine QJ rfl rfl rfl rfl rfl (by with_reducible first | exact lInt | exact lNat | exact lBool | exact lInts) rfl ?_; refine Qd rfl rfl (by with_reducible first | exact sNat.und | exact sInts.und) (List.length_map ..) rfl ?_; refine QV rfl rfl rfl (by with_reducible first | exact fF0 | exact fF1 | exact fF2 | exact fR0 | exact fR1) rfl ?_; refine QJ rfl rfl rfl rfl rfl (by with_reducible first | exact lInt | exact lNat | exact lBool | exact lInts) rfl ?_; refine Qd rfl rfl (by with_reducible first | exact sNat.und | exact sInts.und) (List.length_map ..) rfl ?_; refine Qk ineq rfl rfl rfl rfl ?_; refine QU rfl rfl rfl rfl ?_; refine Qj (hK _ _ (Qz ?_)); clear hK K)
  refine Q2 rfl (fun h3 => ?_) (fun h3 => ?_)
  · (refine Qw (Qq fun K hK => ?_); refine Qv rfl rfl rfl ?_; refine Qj (hK _ _ (Qz (Q0 (QY ?_)))); clear hK K)
    refine QK [_] rfl (Qu rfl QQ) (by rw [no3 (fun h => h3 (by rw [h]))]; rfl) rfl
  have h3 : (limbs f.den).length = (limbs g.den).length := by
    have := Decidable.byContradiction h3
    omega
  (refine Q1 (Qz (Qw (Qw (Qq fun K hK => ?_)))); refine Qv rfl rfl rfl ?_; refine Qj (hK _ _ (Qz (Q4 ?_))); clear hK K)
  refine Xj (α := Nat) (fun k => k ≤ (limbs f.num).length ∧ ∀ j, j < k → (limbs f.num).getD j 0 = (limbs g.num).getD j 0)
    (fun k => [(2, .own 0), (3, .own 1), (5, .ct (intC k))]) (fun _ => [(1, .box 53 (frCs g)), (0, .box 53 (frCs f))]) (fun k => (limbs f.num).length - k) 0 ⟨Nat.zero_le _, fun j h => absurd h (Nat.not_lt_zero j)⟩ (by exact QX rfl ⟨rfl, rfl, rfl, trivial⟩) ?_
  intro k ⟨hk, hv⟩
  dsimp only at hk ⊢
  have e2 : (k : Int).toNat = k := Int.toNat_natCast k
  (refine Qw (Qw (Qq fun K hK => ?_)); refine Qx rfl rfl rfl ?_; refine QV rfl rfl rfl (by with_reducible first | exact fF0 | exact fF1 | exact fF2 | exact fR0 | exact fR1) rfl ?_; refine QJ rfl rfl rfl rfl rfl (by with_reducible first | exact lInt | exact lNat | exact lBool | exact lInts) rfl ?_; refine Qd rfl rfl (by with_reducible first | exact sNat.und | exact sInts.und) (List.length_map ..) rfl ?_; refine Qk ilss rfl rfl rfl rfl ?_; refine Qj (hK _ _ (Qz ?_)); clear hK K)
  refine Q2 rfl (fun h => ?_) (fun h => ?_)
  · (refine Q1 (Qz (Qw (Q4 (Qw ?_)))))
    refine Xu (by with_reducible exact mixed) 11 (.p 0 (.p 2 (.p 5 (.p 7 (.f 1 (.p 3 (.f 4 (.f 6 (.p 8 (.f 9 (.p 10 .done))))))))))) (by kernel_rfl) (fun K hK => ?_)
    (refine QV rfl rfl rfl (by with_reducible first | exact fF0 | exact fF1 | exact fF2 | exact fR0 | exact fR1) rfl ?_; refine Qx rfl rfl rfl ?_; refine QV rfl rfl rfl (by with_reducible first | exact fF0 | exact fF1 | exact fF2 | exact fR0 | exact fR1) rfl ?_; refine Qx rfl rfl rfl ?_; refine QJ rfl rfl rfl rfl rfl (by with_reducible first | exact lInt | exact lNat | exact lBool | exact lInts) rfl ?_; refine Ql rfl rfl rfl (by with_reducible first | exact sNat | exact sInts) (by omega) (X3 (by omega) (by omega)) rfl ?_; refine XQ rfl rfl rfl (by with_reducible first | exact lInt | exact lNat | exact lBool | exact lInts) rfl ?_; refine QJ rfl rfl rfl rfl rfl (by with_reducible first | exact lInt | exact lNat | exact lBool | exact lInts) rfl ?_; refine Ql rfl rfl rfl (by with_reducible first | exact sNat | exact sInts) (by omega) (X3 (by omega) (by omega)) rfl ?_; refine XQ rfl rfl rfl (by with_reducible first | exact lInt | exact lNat | exact lBool | exact lInts) rfl ?_; refine Qk ineq rfl rfl rfl rfl ?_; refine Qj (hK _ _ (Qz ?_)); clear hK K)
    refine Q2 rfl (fun h4 => ?_) (fun h4 => ?_)
    · rw [e2] at h4
      (refine Qw (Qq fun K hK => ?_); refine Qv rfl rfl rfl ?_; refine Qj (hK _ _ (Qz (Q0 (Q8 (QY (QY (Q8 (QY ?_)))))))); clear hK K)
      refine QK [_] rfl (Qu rfl QQ) (by rw [no2 (fun h => h4 (by rw [h]))]; rfl) rfl
    · rw [e2] at h4
      have h4 := Decidable.byContradiction h4
      (refine Q1 (Qz (Qq fun K hK => ?_)); refine Qx rfl rfl rfl ?_; refine Qk (iadd (by omega) (by omega)) rfl rfl rfl rfl ?_; refine Qv rfl rfl rfl ?_; refine Qj (hK _ _ (Q3 ?_)); clear hK K)
      refine Q9 (k + 1) (by omega) ⟨by omega, fun j hj => ?_⟩ (by exact QX rfl ⟨rfl, rfl, by simp only [Int.natCast_add]; rfl, trivial⟩)
      rcases Nat.lt_or_ge j k with h5 | h5
      · exact hv j h5
      · have : j = k := by omega
        rw [this]; exact h4
  · have hnum : limbs f.num = limbs g.num := ext_getD h2 fun j hj => hv j (by omega)
    clear hv
    (refine Qp (Qz (Qw (Qw (Qq fun K hK => ?_)))); refine Qv rfl rfl rfl ?_; refine Qj (hK _ _ (Qz (Q4 ?_))); clear hK K)
    refine Xj (α := Nat) (fun k => k ≤ (limbs f.den).length ∧ ∀ j, j < k → (limbs f.den).getD j 0 = (limbs g.den).getD j 0)
      (fun k => [(2, .own 0), (3, .own 1), (6, .ct (intC k))]) (fun _ => [(1, .box 53 (frCs g)), (0, .box 53 (frCs f))]) (fun k => (limbs f.den).length - k) 0 ⟨Nat.zero_le _, fun j h => absurd h (Nat.not_lt_zero j)⟩ (by exact QX rfl ⟨rfl, rfl, rfl, trivial⟩) ?_
    clear hk e2 h
    clear k
    intro k ⟨hk, hv⟩
    dsimp only at hk ⊢
    have e2 : (k : Int).toNat = k := Int.toNat_natCast k
    (refine Qw (Qw (Qq fun K hK => ?_)); refine Qx rfl rfl rfl ?_; refine QV rfl rfl rfl (by with_reducible first | exact fF0 | exact fF1 | exact fF2 | exact fR0 | exact fR1) rfl ?_; refine QJ rfl rfl rfl rfl rfl (by with_reducible first | exact lInt | exact lNat | exact lBool | exact lInts) rfl ?_; refine Qd rfl rfl (by with_reducible first | exact sNat.und | exact sInts.und) (List.length_map ..) rfl ?_; refine Qk ilss rfl rfl rfl rfl ?_; refine Qj (hK _ _ (Qz ?_)); clear hK K)
    refine Q2 rfl (fun h => ?_) (fun h => ?_)
    · (refine Q1 (Qz (Qw (Q4 (Qw ?_)))))
      refine Xu (by with_reducible exact mixed) 11 (.p 0 (.p 2 (.p 5 (.p 7 (.f 1 (.p 3 (.f 4 (.f 6 (.p 8 (.f 9 (.p 10 .done))))))))))) (by kernel_rfl) (fun K hK => ?_)
      (refine QV rfl rfl rfl (by with_reducible first | exact fF0 | exact fF1 | exact fF2 | exact fR0 | exact fR1) rfl ?_; refine Qx rfl rfl rfl ?_; refine QV rfl rfl rfl (by with_reducible first | exact fF0 | exact fF1 | exact fF2 | exact fR0 | exact fR1) rfl ?_; refine Qx rfl rfl rfl ?_; refine QJ rfl rfl rfl rfl rfl (by with_reducible first | exact lInt | exact lNat | exact lBool | exact lInts) rfl ?_; refine Ql rfl rfl rfl (by with_reducible first | exact sNat | exact sInts) (by omega) (X3 (by omega) (by omega)) rfl ?_; refine XQ rfl rfl rfl (by with_reducible first | exact lInt | exact lNat | exact lBool | exact lInts) rfl ?_; refine QJ rfl rfl rfl rfl rfl (by with_reducible first | exact lInt | exact lNat | exact lBool | exact lInts) rfl ?_; refine Ql rfl rfl rfl (by with_reducible first | exact sNat | exact sInts) (by omega) (X3 (by omega) (by omega)) rfl ?_; refine XQ rfl rfl rfl (by with_reducible first | exact lInt | exact lNat | exact lBool | exact lInts) rfl ?_; refine Qk ineq rfl rfl rfl rfl ?_; refine Qj (hK _ _ (Qz ?_)); clear hK K)
      refine Q2 rfl (fun h4 => ?_) (fun h4 => ?_)
      · rw [e2] at h4
        (refine Qw (Qq fun K hK => ?_); refine Qv rfl rfl rfl ?_; refine Qj (hK _ _ (Qz (Q0 (Q8 (QY (QY (Q8 (QY ?_)))))))); clear hK K)
        refine QK [_] rfl (Qu rfl QQ) (by rw [no3 (fun h => h4 (by rw [h]))]; rfl) rfl
      · rw [e2] at h4
        have h4 := Decidable.byContradiction h4
        (refine Q1 (Qz (Qq fun K hK => ?_)); refine Qx rfl rfl rfl ?_; refine Qk (iadd (by omega) (by omega)) rfl rfl rfl rfl ?_; refine Qv rfl rfl rfl ?_; refine Qj (hK _ _ (Q3 ?_)); clear hK K)
        refine Q9 (k + 1) (by omega) ⟨by omega, fun j hj => ?_⟩ (by exact QX rfl ⟨rfl, rfl, by simp only [Int.natCast_add]; rfl, trivial⟩)
        rcases Nat.lt_or_ge j k with h5 | h5
        · exact hv j h5
        · have : j = k := by omega
          rw [this]; exact h4
    · have hden : limbs f.den = limbs g.den := ext_getD h3 fun j hj => hv j (by omega)
      clear hv
      (refine Qp (Qz (Qw (Qq fun K hK => ?_))); refine Qv rfl rfl rfl ?_; refine Qj (hK _ _ (Qz (Q0 ?_))); clear hK K)
      refine QK [_] rfl (Qu rfl QQ) (by rw [yes h1 hnum hden]; rfl) rfl
end Go.Proofs.YtlkdkbdgnjcopaaGreat
namespace Go.Proofs.YtlkdkbdgnjcopaaGreat
open Go.Own Go.Limbs
attribute [local irreducible] St Ops Go.Own.Fin Ok OkB OkN OkT OkL OkF OkM
def dA : List (Int × Int) := [(2, 1), (2, 1), (2, 1), (2, 0), (2, 0), (2, 0), (2, 0), (2, 0), (2, 0), (2, 0), (1, 0)]
theorem dA_low : ∀ i, i < 3 → dA.getD i (0, 0) = (2, 1) := by decide
theorem dA_mid : ∀ i, i < 10 → 2 < i → dA.getD i (0, 0) = (2, 0) := by decide
theorem dA_cnt : cntF (xF 5 0 dA) (wk 2) 1 = (⟨wk 2, 10, 2, 3⟩, 0) := by
  rw [xF_cnt (n := 2) (by decide) (by decide) (by decide) (by decide) (fun t h1 h2 => ?_) (by decide) (by decide) (by decide) (by decide)]
  · decide
  · have : t = 1 ∨ t = 2 := by omega
    rcases this with h | h <;> subst h <;> decide
theorem q2n : (ofQ (Rat.divInt 2 10)).num = 1 := by kernel_rfl
theorem q2d : (ofQ (Rat.divInt 2 10)).den = 5 := by kernel_rfl
theorem q3n : (ofQ (Rat.divInt 3 10)).num = 3 := by kernel_rfl
theorem q3d : (ofQ (Rat.divInt 3 10)).den = 10 := by kernel_rfl
theorem eq_low : eqFr (ofQ (Rat.divInt 2 10)) (ofQ (Rat.divInt 3 10)) = false := decide_eq_false fun h => by
  have h := h.2.1
  rw [q2n, q3n, Z1 (by decide) (by decide), Z1 (by decide) (by decide)] at h
  exact absurd h (by decide)
theorem goawake : InGo Tryz.prog 9 := InGo.of Tryz.func9 rfl (by decide)
set_option maxHeartbeats 8000000 in
theorem awake_ok : Ok Tryz.prog 9 [] (boolC true) := by
  have hC := Count_ok (xF 5 0 dA) (by rw [xF_len]; decide) (wk 2) 1
  rw [dA_cnt] at hC
  have hR := Rate_ok ⟨wk 2, 10, 2, 3⟩ (by decide) (by decide) (by decide)
  rw [show rateC ⟨wk 2, 10, 2, 3⟩ = .fr (tupT [ratC (Rat.divInt 2 10), ratC (Rat.divInt 3 10), intC 0]) from if_neg (by decide)] at hR
  have hF := rFrom_ok 3 10 (by decide) (by decide) (by decide) (by decide) (by decide)
  have b1 : (limbs (ofQ (Rat.divInt 2 10)).num).length ≤ 1000 ∧ (limbs (ofQ (Rat.divInt 2 10)).den).length ≤ 1000 ∧ (limbs (ofQ (Rat.divInt 3 10)).num).length ≤ 1000 ∧ (limbs (ofQ (Rat.divInt 3 10)).den).length ≤ 1000 := by
    rw [q2n, q2d, q3n, q3d, Z1 (by decide) (by decide), Z1 (by decide) (by decide), Z1 (by decide) (by decide), Z1 (by decide) (by decide)]; decide
  have hE1 := Equal_ok (ofQ (Rat.divInt 3 10)) (ofQ (Rat.divInt 3 10)) b1.2.2.1 b1.2.2.2 b1.2.2.1 b1.2.2.2
  rw [eqFr_self] at hE1
  have hE2 := Equal_ok (ofQ (Rat.divInt 2 10)) (ofQ (Rat.divInt 3 10)) b1.1 b1.2.1 b1.2.2.1 b1.2.2.2
  rw [eq_low] at hE2
  refine Ok.enter Tryz.func9 rfl _ Tryz.ntmps9 rfl ?_
  intro S w0
  (refine Qw (Qq fun K hK => ?_); refine Qv rfl rfl rfl ?_; refine Qj (hK _ _ (Qz (Qw ?_))); clear hK K; refine Qq (fun K hK => ?_); refine Qv rfl rfl rfl ?_; refine Qj (hK _ _ (Qz (Qw (Qw ?_)))); clear hK K; refine Qq (fun K hK => ?_); refine Qv rfl rfl rfl ?_; refine Qj (hK _ _ (Qz (Q4 ?_))); clear hK K)
  refine Xe 1 0 35 17 rfl rfl rfl ?_
  refine Xj (α := Nat) (fun i => i ≤ 11) (fun i => [(1, .own 0), (2, .ct (intC i))]) (fun i => [(0, .row 35 17 (rss (xF 5 0 (dA.take i))))]) (fun i => 11 - i) 0 (Nat.zero_le _) (by exact QX rfl ⟨rfl, rfl, trivial⟩) ?_
  intro i hi
  try dsimp only at hi ⊢
  (refine Qw (Qw (Qq fun K hK => ?_)); refine Qx rfl rfl rfl ?_; refine Qk ilss rfl rfl rfl rfl ?_; refine Qj (hK _ _ (Qz ?_)); clear hK K)
  refine Q2 rfl (fun h => ?_) (fun h => ?_)
  · have hx := take_snoc (z := ((0, 0) : Int × Int)) (l := dA) (i := i) (by show i < 11; omega)
    have hlen2 : (dA.take i).length = i := by rw [List.length_take]; show min i 11 = i; omega
    have hlen : (xF 5 0 (dA.take i)).length = i := by rw [xF_len, hlen2]
    (refine Q1 (Qz (Qw (Q4 (Qw (Qq fun K hK => ?_))))); refine Qx rfl rfl rfl ?_; refine Qx rfl rfl rfl ?_; refine Qk (imul (by omega) (by omega)) rfl rfl rfl rfl ?_; refine Qx rfl rfl rfl ?_; refine Qk (imul (by omega) (by omega)) rfl rfl rfl rfl ?_; refine Qk (iadd (by omega) (by omega)) rfl rfl rfl rfl ?_)
    refine Qs rfl (by with_reducible exact bRes) rfl (.one rfl rfl rfl rfl (.one rfl rfl rfl rfl (.one rfl rfl rfl rfl (.one rfl rfl rfl rfl (.one rfl rfl rfl rfl (.one rfl rfl rfl rfl .nil)))))) rfl ?_
    refine Qg 1 rfl rfl (by with_reducible exact zvRes) rfl rfl rfl ?_
    refine Qc 17 rfl rfl rfl rfl rfl (by with_reducible exact szRes) rfl rfl ?_
    (refine Qj (hK _ _ (Qz (Qw (Qw ?_)))); clear hK K; refine Qq (fun K hK => ?_); refine Qx rfl rfl rfl ?_; refine Qk ieql rfl rfl rfl rfl ?_; refine Qj (hK _ _ (Qz ?_)); clear hK K)
    refine Q2 rfl (fun g => ?_) (fun g => ?_)
    · have hi10 : i = 10 := by omega
      subst hi10
      have HD : dA.getD 10 (0, 0) = (1, 0) := rfl
      (refine Qq (fun K hK => ?_); refine QV rfl rfl rfl (by with_reducible first | exact fS0 | exact fS1 | exact fS2 | exact fS3 | exact fS4 | exact fS5 | exact fS6 | exact fS7 | exact fS8 | exact fS9 | exact fS10 | exact fS11 | exact fN0 | exact fN1 | exact fN2 | exact fN3 | exact fN4 | exact fN5) rfl ?_; refine X6 rfl rfl rfl rfl rfl (by with_reducible first | exact zInt | exact zAddr | exact zClaims) (Nat.le_of_ble_eq_true rfl) ?_; refine Qj (hK _ _ (Qz (Qw (Qw ?_)))); clear hK K; refine Qq (fun K hK => ?_); refine Qx rfl rfl rfl ?_; refine Qk igtr rfl rfl rfl rfl ?_; refine Qj (hK _ _ (Qz (Qo rfl ?_))); clear hK K; refine Qq (fun K hK => ?_); refine QV rfl rfl rfl (by with_reducible first | exact fS0 | exact fS1 | exact fS2 | exact fS3 | exact fS4 | exact fS5 | exact fS6 | exact fS7 | exact fS8 | exact fS9 | exact fS10 | exact fS11 | exact fN0 | exact fN1 | exact fN2 | exact fN3 | exact fN4 | exact fN5) rfl ?_; refine QJ rfl rfl rfl rfl rfl (by with_reducible first | exact lInt | exact Qa | exact Q5 | exact lRess) rfl ?_)
      refine Yx (q := 1) rfl rfl (by with_reducible exact uInt) (by with_reducible exact uAddr) (by decide) rfl ?_
      refine Qs rfl (by with_reducible exact bAns) rfl (.one rfl rfl rfl rfl (.one rfl rfl rfl rfl .nil)) rfl ?_
      (refine QV rfl rfl rfl (by with_reducible first | exact fS0 | exact fS1 | exact fS2 | exact fS3 | exact fS4 | exact fS5 | exact fS6 | exact fS7 | exact fS8 | exact fS9 | exact fS10 | exact fS11 | exact fN0 | exact fN1 | exact fN2 | exact fN3 | exact fN4 | exact fN5) rfl ?_)
      refine X6 rfl rfl rfl rfl rfl (by with_reducible exact zBool1) (Nat.le_of_ble_eq_true rfl) ?_
      (refine QV rfl rfl rfl (by with_reducible first | exact fS0 | exact fS1 | exact fS2 | exact fS3 | exact fS4 | exact fS5 | exact fS6 | exact fS7 | exact fS8 | exact fS9 | exact fS10 | exact fS11 | exact fN0 | exact fN1 | exact fN2 | exact fN3 | exact fN4 | exact fN5) rfl ?_)
      refine Ops.stNA rfl rfl rfl rfl rfl (by exact szAns) (Nat.le_of_ble_eq_true rfl) ?_
      (refine Qj (hK _ _ (Qz ?_)); clear hK K; refine Qq (fun K hK => ?_); refine Qx rfl rfl rfl ?_; refine Q7 (n := 17) rfl rfl rfl rfl rfl (by with_reducible exact lRes) rfl ?_)
      refine X4 (n := 17) rfl rfl (by with_reducible exact sRes) rfl rfl (by decide) rfl ?_
      refine Qt 10 (rss (xF 5 0 (dA.take (10 + 1)))) rfl rfl rfl rfl (by with_reducible exact sRes) (by rw [Xt, hlen]) rfl (by omega) (by omega) (by rw [hx, xF_snoc, Zi, hlen2, HD, Int.zero_add]; rfl) rfl ?_
      (refine Qv rfl rfl rfl ?_; refine Qj (hK _ _ (Qz ?_)); clear hK K; refine Qq (fun K hK => ?_); refine Qx rfl rfl rfl ?_; refine Qk (iadd (by omega) (by omega)) rfl rfl rfl rfl ?_; refine Qv rfl rfl rfl ?_; refine Qj (hK _ _ (Q3 ?_)); clear hK K)
      refine Qn 1 ?_
      refine Q9 (10 + 1) (by omega) (by omega) (by exact QX rfl ⟨rfl, by simp only [Int.natCast_add]; rfl, trivial⟩)
    (refine Q1 (Qz (Qw (Qw (Qq fun K hK => ?_)))); refine Qx rfl rfl rfl ?_; refine Qk igtr rfl rfl rfl rfl ?_; refine Qj (hK _ _ (Qz ?_)); clear hK K)
    refine Q2 rfl (fun g2 => ?_) (fun g2 => ?_)
    · have HD := dA_mid i (by omega) (by omega)
      (refine Qq (fun K hK => ?_); refine QV rfl rfl rfl (by with_reducible first | exact fS0 | exact fS1 | exact fS2 | exact fS3 | exact fS4 | exact fS5 | exact fS6 | exact fS7 | exact fS8 | exact fS9 | exact fS10 | exact fS11 | exact fN0 | exact fN1 | exact fN2 | exact fN3 | exact fN4 | exact fN5) rfl ?_; refine QJ rfl rfl rfl rfl rfl (by with_reducible first | exact lInt | exact Qa | exact Q5 | exact lRess) rfl ?_)
      refine Yx (q := 2) rfl rfl (by with_reducible exact uInt) (by with_reducible exact uAddr) (by decide) rfl ?_
      refine Qs rfl (by with_reducible exact bAns) rfl (.one rfl rfl rfl rfl (.one rfl rfl rfl rfl .nil)) rfl ?_
      (refine QV rfl rfl rfl (by with_reducible first | exact fS0 | exact fS1 | exact fS2 | exact fS3 | exact fS4 | exact fS5 | exact fS6 | exact fS7 | exact fS8 | exact fS9 | exact fS10 | exact fS11 | exact fN0 | exact fN1 | exact fN2 | exact fN3 | exact fN4 | exact fN5) rfl ?_)
      refine X6 rfl rfl rfl rfl rfl (by with_reducible exact zBool1) (Nat.le_of_ble_eq_true rfl) ?_
      (refine QV rfl rfl rfl (by with_reducible first | exact fS0 | exact fS1 | exact fS2 | exact fS3 | exact fS4 | exact fS5 | exact fS6 | exact fS7 | exact fS8 | exact fS9 | exact fS10 | exact fS11 | exact fN0 | exact fN1 | exact fN2 | exact fN3 | exact fN4 | exact fN5) rfl ?_)
      refine Ops.stNA rfl rfl rfl rfl rfl (by exact szAns) (Nat.le_of_ble_eq_true rfl) ?_
      (refine Qj (hK _ _ (Qz ?_)); clear hK K; refine Qq (fun K hK => ?_); refine Qx rfl rfl rfl ?_; refine Q7 (n := 17) rfl rfl rfl rfl rfl (by with_reducible exact lRes) rfl ?_)
      refine X4 (n := 17) rfl rfl (by with_reducible exact sRes) rfl rfl (by decide) rfl ?_
      refine Qt i (rss (xF 5 0 (dA.take (i + 1)))) rfl rfl rfl rfl (by with_reducible exact sRes) (by rw [Xt, hlen]) rfl (by omega) (by omega) (by rw [hx, xF_snoc, Zi, hlen2, HD, Int.zero_add]; rfl) rfl ?_
      (refine Qv rfl rfl rfl ?_; refine Qj (hK _ _ (Qz ?_)); clear hK K; refine Qq (fun K hK => ?_); refine Qx rfl rfl rfl ?_; refine Qk (iadd (by omega) (by omega)) rfl rfl rfl rfl ?_; refine Qv rfl rfl rfl ?_; refine Qj (hK _ _ (Q3 ?_)); clear hK K)
      refine Qn 1 ?_
      refine Q9 (i + 1) (by omega) (by omega) (by exact QX rfl ⟨rfl, by simp only [Int.natCast_add]; rfl, trivial⟩)
    · have HD := dA_low i (by omega)
      (refine Q1 (Qz (Qq fun K hK => ?_)); refine Qx rfl rfl rfl ?_; refine Q7 (n := 17) rfl rfl rfl rfl rfl (by with_reducible exact lRes) rfl ?_)
      refine X4 (n := 17) rfl rfl (by with_reducible exact sRes) rfl rfl (by decide) rfl ?_
      refine Qt i (rss (xF 5 0 (dA.take (i + 1)))) rfl rfl rfl rfl (by with_reducible exact sRes) (by rw [Xt, hlen]) rfl (by omega) (by omega) (by rw [hx, xF_snoc, Zi, hlen2, HD, Int.zero_add]; rfl) rfl ?_
      (refine Qv rfl rfl rfl ?_; refine Qj (hK _ _ (Qz ?_)); clear hK K; refine Qq (fun K hK => ?_); refine Qx rfl rfl rfl ?_; refine Qk (iadd (by omega) (by omega)) rfl rfl rfl rfl ?_; refine Qv rfl rfl rfl ?_; refine Qj (hK _ _ (Q3 ?_)); clear hK K)
      refine Qn 1 ?_
      refine Q9 (i + 1) (by omega) (by omega) (by exact QX rfl ⟨rfl, by simp only [Int.natCast_add]; rfl, trivial⟩)
  · have hi' : i = 11 := by omega
    subst hi'
    rw [show List.take 11 dA = dA from rfl]
    (refine Qp (Qz (Qw (Qq fun K hK => ?_))); refine Qx rfl rfl rfl ?_)
    refine X2 0 _ rfl (Xn _ _) XZ ?_
    refine Qs rfl (by with_reducible exact bWire) rfl (.one rfl rfl rfl rfl (.one rfl rfl rfl rfl .nil)) rfl ?_
    refine QW goCount hC rfl rfl rfl rfl ?_
    (refine Qx rfl rfl rfl ?_; refine Qf rfl rfl rfl rfl ?_; refine Qf rfl rfl rfl rfl ?_; refine Qg 0 rfl rfl (by with_reducible first | exact zvTrav | exact zvCn) rfl rfl rfl ?_; refine Qc 5 rfl rfl rfl rfl rfl (by with_reducible exact szCn) rfl rfl ?_; refine Qv rfl rfl rfl ?_; refine Qj (hK _ _ (Qz (Qw ?_))); clear hK K; refine Qq (fun K hK => ?_); refine Q7 (n := 5) rfl rfl rfl rfl rfl (by with_reducible exact lCn) rfl ?_)
    refine QW goRate hR rfl rfl rfl rfl ?_
    (refine Qx rfl rfl rfl ?_; refine Qf rfl rfl rfl rfl ?_; refine Qf rfl rfl rfl rfl ?_; refine Qf rfl rfl rfl rfl ?_)
    refine Qg 2 rfl rfl (by with_reducible exact zvFrac) rfl rfl rfl ?_
    refine Qg 3 rfl rfl (by with_reducible exact zvFrac) rfl rfl rfl ?_
    refine Qc 3 rfl rfl rfl rfl rfl (by with_reducible exact szFrac) rfl rfl ?_
    refine Qc 3 rfl rfl rfl rfl rfl (by with_reducible exact szFrac) rfl rfl ?_
    (refine Qv rfl rfl rfl ?_; refine Qj (hK _ _ (Qz (Qw ?_))); clear hK K; refine Qq (fun K hK => ?_))
    refine QW gorFrom hF rfl rfl rfl rfl ?_
    (refine Qx rfl rfl rfl ?_; refine Qf rfl rfl rfl rfl ?_; refine Qf rfl rfl rfl rfl ?_)
    refine Qg 4 rfl rfl (by with_reducible exact zvFrac) rfl rfl rfl ?_
    refine Qc 3 rfl rfl rfl rfl rfl (by with_reducible exact szFrac) rfl rfl ?_
    (refine Qv rfl rfl rfl ?_; refine Qj (hK _ _ (Qz (Qw ?_))); clear hK K; refine Qq (fun K hK => ?_); refine Qx rfl rfl rfl ?_; refine Qk ieql rfl rfl rfl rfl ?_; refine Qx rfl rfl rfl ?_; refine QV rfl rfl rfl (by with_reducible first | exact fTk0 | exact fTk1 | exact fTk2 | exact fWr0 | exact fWr1 | exact X1 | exact X0 | exact Xm | exact fStm1 | exact fCn0 | exact fCn1 | exact fCn2 | exact fCn3 | exact fCs0 | exact fCs1) rfl ?_; refine QJ rfl rfl rfl rfl rfl (by with_reducible first | exact lInt | exact Qa | exact Q5 | exact lRess) rfl ?_; refine Qk ieql rfl rfl rfl rfl ?_; refine QZ rfl rfl rfl rfl ?_; refine Qx rfl rfl rfl ?_; refine QV rfl rfl rfl (by with_reducible first | exact fTk0 | exact fTk1 | exact fTk2 | exact fWr0 | exact fWr1 | exact X1 | exact X0 | exact Xm | exact fStm1 | exact fCn0 | exact fCn1 | exact fCn2 | exact fCn3 | exact fCs0 | exact fCs1) rfl ?_; refine QJ rfl rfl rfl rfl rfl (by with_reducible first | exact lInt | exact Qa | exact Q5 | exact lRess) rfl ?_; refine Qk ieql rfl rfl rfl rfl ?_; refine QZ rfl rfl rfl rfl ?_; refine Qx rfl rfl rfl ?_; refine QV rfl rfl rfl (by with_reducible first | exact fTk0 | exact fTk1 | exact fTk2 | exact fWr0 | exact fWr1 | exact X1 | exact X0 | exact Xm | exact fStm1 | exact fCn0 | exact fCn1 | exact fCn2 | exact fCn3 | exact fCs0 | exact fCs1) rfl ?_; refine QJ rfl rfl rfl rfl rfl (by with_reducible first | exact lInt | exact Qa | exact Q5 | exact lRess) rfl ?_; refine Qk ieql rfl rfl rfl rfl ?_; refine QZ rfl rfl rfl rfl ?_; refine Qx rfl rfl rfl ?_; refine Qx rfl rfl rfl ?_; refine Qk ieql rfl rfl rfl rfl ?_; refine QZ rfl rfl rfl rfl ?_; refine Qx rfl rfl rfl ?_)
    refine Q7 (n := 3) rfl rfl rfl rfl rfl (by with_reducible exact Zc) rfl ?_
    refine Q7 (n := 3) rfl rfl rfl rfl rfl (by with_reducible exact Zc) rfl ?_
    refine QW goEqual hE1 rfl rfl rfl rfl ?_
    (refine QZ rfl rfl rfl rfl ?_; refine Qx rfl rfl rfl ?_)
    refine Q7 (n := 3) rfl rfl rfl rfl rfl (by with_reducible exact Zc) rfl ?_
    refine Q7 (n := 3) rfl rfl rfl rfl rfl (by with_reducible exact Zc) rfl ?_
    refine QW goEqual hE2 rfl rfl rfl rfl ?_
    (refine Qm rfl rfl rfl ?_; refine QZ rfl rfl rfl rfl ?_; refine Qv rfl rfl rfl ?_; refine Qj (hK _ _ (Qz (Q0 ?_))); clear hK K)
    refine QK [_] rfl (Qu rfl QQ) rfl rfl
section
variable {X : Ctx} {L : AL} {B : BL} {ops : Array Oper} {K : Act → World → Prop} {r : Pl} {k : Kd}
  {x y z : Operand} {d : Nat} {t t2 t' : TypeId} {pos : String} {af : Array Edge} {g : Option (Nat × Bool)}
theorem eqCnR (p q : Cn) (hg : gd ops L g = some true) (hx : ev L x = some (.ct (.fr (aggT (cnCs p))))) (hy : ev L y = some (.ct (.fr (aggT (cnCs q))))) (hP : X.P = Tryz.prog) (hn : Nat.blt d X.n = true)
    (h : Ops X ops r ((d, .ct (boolC (decide (p = q)))) :: L) B K) : Ops X ops (.cons ⟨some d, .binOp .eql 39 x y t2, t', pos, af, g⟩ k r) L B K :=
  Ops.eqK (ks := ([IntKind.u32, IntKind.u32] ++ [IntKind.i64, IntKind.i64, IntKind.i64])) (cnI p) (cnI q) hg hx hy rfl rfl (hP ▸ eqCn.flat) (by rw [hP]; kernel_rfl) hn (by
    have e : (cnI p = cnI q) ↔ p = q := ⟨cnI_inj _ _, fun h => by rw [h]⟩
    rw [decide_eq_decide.2 e]; exact h)
end
theorem mem_take_snoc {al : List Cn} {c : Cn} {j : Nat} (h : j < al.length) : c ∈ al.take (j + 1) ↔ c ∈ al.take j ∨ al.getD j cn0 = c := by
  rw [List.take_add_one, List.mem_append, List.getElem?_eq_getElem h, List.getD_eq_getElem?_getD, List.getElem?_eq_getElem h]
  simp [eq_comm]
set_option maxHeartbeats 16000000 in
theorem LossCovers_ok (bs : List Int) (hb : ∀ b ∈ bs, 0 ≤ b ∧ b < 256) : Ok Tryz.prog 8 [bytesC bs] (boolC true) := by
  refine Ok.enter Tryz.func8 rfl _ Tryz.ntmps8 rfl ?_
  intro S w
  have hB : Bytes (bs.take 400) := ⟨fun b h => (hb b (List.mem_of_mem_take h)).1, fun b h => (hb b (List.mem_of_mem_take h)).2, by simp; omega⟩
  have hRoll := Roll_ok bs
  generalize bs.take 400 = B0 at hB hRoll
  (refine Qw (Qq fun K hK => ?_); refine Qv rfl rfl rfl ?_; refine Qj (hK _ _ (Qz (Qw (Qw ?_)))); clear hK K; refine Qq (fun K hK => ?_))
  refine QW goawake awake_ok rfl rfl rfl rfl ?_
  (refine Qm rfl rfl rfl ?_; refine Qj (hK _ _ (Qz (Xv rfl (Q1 (Qz (Qw ?_)))))); clear hK K; refine Qq (fun K hK => ?_); refine Qx rfl rfl rfl ?_)
  refine Ops.callN 0 goRoll hRoll rfl rfl rfl rfl rfl rfl ?_
  (refine Qv rfl rfl rfl ?_; refine Qj (hK _ _ (Qz (Qw ?_))); clear hK K; refine Qq (fun K hK => ?_); refine Qx rfl rfl rfl ?_)
  refine Xw goDConsistent (DConsistent_ok B0 0 16 (by decide) (by decide) hB) rfl rfl rfl rfl rfl (fun q hx => ?_)
  obtain ⟨x, p1⟩ := q
  dsimp only at hx ⊢
  obtain ⟨hxl, hpw, hok, _⟩ := hx
  have hchk := chk_fine hok hpw (by omega)
  have hA := All_ok x (by omega) 0
  have hV := Variables_ok x (by omega)
  have hC := fun w => Count_ok x (by omega) w 0
  have h2 := alO_snd (n := 0) hchk ⟨by omega, by omega⟩
  have hcv := fun w (h : w ∈ vrF x) => covers hchk h
  have hvl := vr_len hchk
  have ev : vrO x = if 16 < ((vrF x).length : Int) then ([], 5) else (vrF x, 0) := if_neg (fun h => h hchk)
  have hll := alO_len x 0
  have hll : (alO x 0).1.length ≤ 10000 := by omega
  generalize alO x 0 = al at hA h2 hcv hvl hll
  obtain ⟨cl, e0⟩ := al
  dsimp only at h2 hcv hA hvl hll
  subst h2
  generalize vrO x = vo at hV ev
  generalize vrF x = v at ev hcv hvl
  obtain ⟨vs, ve⟩ := vo
  dsimp only at hV
  (refine Qv rfl rfl rfl ?_; refine Qj (hK _ _ (Qz (Qw ?_))); clear hK K; refine Qq (fun K hK => ?_); refine Qx rfl rfl rfl ?_)
  refine QW goVariables hV rfl rfl rfl rfl ?_
  (refine Qx rfl rfl rfl ?_; refine Qf rfl rfl rfl rfl ?_; refine Qf rfl rfl rfl rfl ?_; refine Qv rfl rfl rfl ?_; refine Qv rfl rfl rfl ?_; refine Qj (hK _ _ (Qz (Qw (Qw ?_)))); clear hK K; refine Qq (fun K hK => ?_); refine Qx rfl rfl rfl ?_; refine Qk ineq rfl rfl rfl rfl ?_; refine Qj (hK _ _ (Qz ?_)); clear hK K)
  by_cases hbig : 16 < (v.length : Int)
  · rw [if_pos hbig] at ev
    injection ev with e1 e2
    subst e1; subst e2
    (refine Qo rfl (Qw (Qq fun K hK => ?_)); refine Qx rfl rfl rfl ?_; refine Qk ieql rfl rfl rfl rfl ?_; refine Qv rfl rfl rfl ?_; refine Qj (hK _ _ (Qz (Q0 (QY ?_)))); clear hK K)
    refine QK [_] rfl (Qu rfl QQ) rfl rfl
  rw [if_neg hbig] at ev
  injection ev with e1 e2
  subst e1; subst e2
  (refine Xv rfl (Q1 (Qz (Qw (Qq fun K hK => ?_)))); refine Qx rfl rfl rfl ?_)
  refine QW goAll hA rfl rfl rfl rfl ?_
  (refine Qx rfl rfl rfl ?_; refine Qf rfl rfl rfl rfl ?_; refine Qf rfl rfl rfl rfl ?_; refine Qv rfl rfl rfl ?_; refine Qv rfl rfl rfl ?_; refine Qj (hK _ _ (Qz (Qw (Qw ?_)))); clear hK K; refine Qq (fun K hK => ?_); refine Qx rfl rfl rfl ?_; refine Qd rfl rfl (by with_reducible first | exact sTks.und | exact sWrs.und | exact sIks.und | exact sAdrs.und) (List.length_map ..) rfl ?_; refine Qx rfl rfl rfl ?_; refine Qj (hK _ _ (Qz (Q4 ?_))); clear hK K)
  refine Xj (α := Nat) (fun i => i ≤ vs.length) (fun i => [(4, .ct (rssC x)), (5, .ct (wrsC vs)), (7, .ct (cnsC cl)), (8, .ct (intC 0)), (36, .ct (wrsC vs)), (37, .ct (intC vs.length)), (38, .ct (intC i))])
    (fun _ => [(0, .box 78 (codes B0 p1))]) (fun i => vs.length - i) 0 (Nat.zero_le _) (by exact QX rfl ⟨rfl, rfl, rfl, rfl, rfl, rfl, rfl, trivial⟩) ?_
  intro i hi
  try dsimp only at hi ⊢
  (refine Qw (Qq fun K hK => ?_); refine Qk ilss rfl rfl rfl rfl ?_; refine Qj (hK _ _ (Qz (Qw ?_))); clear hK K)
  refine Q2 rfl (fun h => ?_) (fun h => ?_)
  rotate_left
  · (refine Qp (Qz (Qw (Qq fun K hK => ?_))); refine Qx rfl rfl rfl ?_; refine Qk ieql rfl rfl rfl rfl ?_; refine Qx rfl rfl rfl ?_; refine Qx rfl rfl rfl ?_)
    refine Qd rfl rfl (by with_reducible exact sCns.und) (List.length_map ..) rfl ?_
    (refine Qx rfl rfl rfl ?_; refine Qd rfl rfl (by with_reducible first | exact sTks.und | exact sWrs.und | exact sIks.und | exact sAdrs.und) (List.length_map ..) rfl ?_; refine Qk igeq rfl rfl rfl rfl ?_; refine QZ rfl rfl rfl rfl ?_; refine Qv rfl rfl rfl ?_; refine Qj (hK _ _ (Qz (Q0 ?_))); clear hK K)
    refine QK [_] rfl (Qu rfl QQ) (by rw [decide_eq_true (show (vs.length : Int) ≤ (cl.length : Int) by omega)]; rfl) rfl
  have e2 : (i : Int).toNat = i := Int.toNat_natCast i
  have hc := hcv (vs.getD i wr0) (by rw [List.getD_eq_getElem?_getD, List.getElem?_eq_getElem (by omega)]; exact List.getElem_mem _)
  (refine Q1 (Qz (Qw (Q4 (Qw (Qq fun K hK => ?_))))))
  refine Ql rfl rfl rfl (by with_reducible exact sWrs) (by omega) (wrs_at (by omega) (by omega)) rfl ?_
  rw [e2]
  generalize vs.getD i wr0 = wr at hc
  obtain ⟨c, k1, k2, k3, k4⟩ := hc
  have hC := hC wr
  rw [k1] at hC
  dsimp only at hC
  clear hcv k1
  refine XW (n := 2) rfl rfl rfl (by with_reducible exact ZK) rfl rfl ?_
  refine Qg 1 rfl rfl (by with_reducible exact zvWire) rfl rfl rfl ?_
  refine Qc 2 rfl rfl rfl rfl rfl (by with_reducible exact szWire) rfl rfl ?_
  (refine Qj (hK _ _ (Qz (Qw ?_))); clear hK K; refine Qq (fun K hK => ?_); refine Qx rfl rfl rfl ?_; refine Q7 (n := 2) rfl rfl rfl rfl rfl (by with_reducible first | exact Yq | exact ZK | exact lCs) rfl ?_)
  refine QW goCount hC rfl rfl rfl rfl ?_
  (refine Qx rfl rfl rfl ?_; refine Qf rfl rfl rfl rfl ?_; refine Qf rfl rfl rfl rfl ?_; refine Qg 2 rfl rfl (by with_reducible first | exact zvStm | exact zvCn) rfl rfl rfl ?_; refine Qc 5 rfl rfl rfl rfl rfl (by with_reducible exact szCn) rfl rfl ?_; refine Qv rfl rfl rfl ?_; refine Qj (hK _ _ (Qz (Qw ?_))); clear hK K; refine Qq (fun K hK => ?_); refine Qv rfl rfl rfl ?_; refine Qj (hK _ _ (Qz (Qw (Qw ?_)))); clear hK K; refine Qq (fun K hK => ?_); refine Qx rfl rfl rfl ?_)
  refine Qd rfl rfl (by with_reducible exact sCns.und) (List.length_map ..) rfl ?_
  (refine Qx rfl rfl rfl ?_; refine Qj (hK _ _ (Qz (Q4 ?_))); clear hK K)
  refine Xj (α := Nat) (fun j => j ≤ cl.length) (fun j => [(4, .ct (rssC x)), (5, .ct (wrsC vs)), (7, .ct (cnsC cl)), (8, .ct (intC 0)), (10, .own 1), (11, .own 2), (12, .ct (intC 0)), (13, .ct (boolC (decide (c ∈ cl.take j)))), (36, .ct (wrsC vs)), (37, .ct (intC vs.length)), (38, .ct (intC i)), (48, .ct (cnsC cl)), (49, .ct (intC cl.length)), (50, .ct (intC j))])
    (fun _ => [(2, .box 39 (cnCs c)), (1, .box 37 (wrCs wr)), (0, .box 78 (codes B0 p1))]) (fun j => cl.length - j) 0 (Nat.zero_le _) (by exact QX rfl ⟨rfl, rfl, rfl, rfl, rfl, rfl, rfl, rfl, rfl, rfl, rfl, rfl, rfl, rfl, trivial⟩) ?_
  intro j hj
  try dsimp only at hj ⊢
  (refine Qw (Qq fun K hK => ?_); refine Qk ilss rfl rfl rfl rfl ?_; refine Qj (hK _ _ (Qz (Qw ?_))); clear hK K)
  refine Q2 rfl (fun h4 => ?_) (fun h4 => ?_)
  · have e4 : (j : Int).toNat = j := Int.toNat_natCast j
    have hs : decide (c ∈ cl.take (j + 1)) = (decide (c ∈ cl.take j) || decide (cl.getD j cn0 = c)) := by
      rw [decide_eq_decide.2 (mem_take_snoc (by omega))]
      exact Bool.decide_or ..
    (refine Q1 (Qz (Qw (Q4 (Qw (Qq fun K hK => ?_))))))
    refine Ql rfl rfl rfl (by with_reducible exact sCns) (by omega) (cns_at (by omega) (by omega)) rfl ?_
    rw [e4]
    generalize cl.getD j cn0 = y at hs
    generalize decide (c ∈ cl.take j) = fo at hs ⊢
    refine XW (n := 5) rfl rfl rfl (by with_reducible exact lCn) rfl rfl ?_
    refine Qg 3 rfl rfl (by with_reducible exact zvCn) rfl rfl rfl ?_
    refine Qc 5 rfl rfl rfl rfl rfl (by with_reducible exact szCn) rfl rfl ?_
    (refine Qj (hK _ _ (Qz ?_)); clear hK K; refine Qq (fun K hK => ?_); refine Qx rfl rfl rfl ?_; refine Qx rfl rfl rfl ?_)
    refine X5 55 rfl (fun g1 => ?_) (fun g1 => ?_)
    · rw [g1, Bool.true_or] at hs
      (refine Qy rfl rfl rfl ?_; refine Qy rfl rfl rfl ?_; refine Qy rfl rfl rfl ?_; refine QZ rfl rfl rfl rfl ?_; refine Qv rfl rfl rfl ?_; refine Qj (hK _ _ (Qz ?_)); clear hK K; refine Qq (fun K hK => ?_); refine Qk (iadd (by omega) (by omega)) rfl rfl rfl rfl ?_; refine Qx rfl rfl rfl ?_; refine Qj (hK _ _ (Q3 ?_)); clear hK K)
      refine Qn 3 ?_
      refine Q9 (j + 1) (by omega) (by omega) (by rw [hs]; exact QX rfl ⟨rfl, rfl, rfl, rfl, rfl, rfl, rfl, rfl, rfl, rfl, rfl, rfl, rfl, by simp only [Int.natCast_add]; rfl, trivial⟩)
    · rw [g1, Bool.false_or] at hs
      (refine Q7 (n := 5) rfl rfl rfl rfl rfl (by with_reducible exact lCn) rfl ?_; refine Q7 (n := 5) rfl rfl rfl rfl rfl (by with_reducible exact lCn) rfl ?_)
      refine eqCnR y c rfl rfl rfl rfl rfl ?_
      (refine QU rfl rfl rfl rfl ?_; refine Qv rfl rfl rfl ?_; refine Qj (hK _ _ (Qz ?_)); clear hK K; refine Qq (fun K hK => ?_); refine Qk (iadd (by omega) (by omega)) rfl rfl rfl rfl ?_; refine Qx rfl rfl rfl ?_; refine Qj (hK _ _ (Q3 ?_)); clear hK K)
      refine Qn 3 ?_
      refine Q9 (j + 1) (by omega) (by omega) (by rw [hs]; exact QX rfl ⟨rfl, rfl, rfl, rfl, rfl, rfl, rfl, rfl, rfl, rfl, rfl, rfl, rfl, by simp only [Int.natCast_add]; rfl, trivial⟩)
  have hf : decide (c ∈ cl.take j) = true := by rw [List.take_of_length_le (by omega)]; exact decide_eq_true k2
  rw [hf]
  clear hf
  (refine Qp (Qz (Qw (Qq fun K hK => ?_))); refine Qx rfl rfl rfl ?_; refine Qk ineq rfl rfl rfl rfl ?_; refine Qx rfl rfl rfl ?_; refine QV rfl rfl rfl (by with_reducible first | exact fTk0 | exact fTk1 | exact fTk2 | exact fWr0 | exact fWr1 | exact X1 | exact X0 | exact Xm | exact fStm1 | exact fCn0 | exact fCn1 | exact fCn2 | exact fCn3 | exact fCs0 | exact fCs1) rfl ?_; refine QJ rfl rfl rfl rfl rfl (by with_reducible first | exact lInt | exact Qa | exact Q5 | exact lRess) rfl ?_; refine Qk ilss rfl rfl rfl rfl ?_; refine QU rfl rfl rfl rfl ?_; refine Qx rfl rfl rfl ?_)
  refine Q6 68 rfl (fun g => absurd g (by omega)) (fun _ => ?_)
  (refine QV rfl rfl rfl (by with_reducible first | exact fTk0 | exact fTk1 | exact fTk2 | exact fWr0 | exact fWr1 | exact X1 | exact X0 | exact Xm | exact fStm1 | exact fCn0 | exact fCn1 | exact fCn2 | exact fCn3 | exact fCs0 | exact fCs1) rfl ?_; refine QJ rfl rfl rfl rfl rfl (by with_reducible first | exact lInt | exact Qa | exact Q5 | exact lRess) rfl ?_; refine QV rfl rfl rfl (by with_reducible first | exact fTk0 | exact fTk1 | exact fTk2 | exact fWr0 | exact fWr1 | exact X1 | exact X0 | exact Xm | exact fStm1 | exact fCn0 | exact fCn1 | exact fCn2 | exact fCn3 | exact fCs0 | exact fCs1) rfl ?_; refine QJ rfl rfl rfl rfl rfl (by with_reducible first | exact lInt | exact Qa | exact Q5 | exact lRess) rfl ?_; refine Qk (isub (by omega) (by omega)) rfl rfl rfl rfl ?_; refine Qk ileq rfl rfl rfl rfl ?_; refine QU rfl rfl rfl rfl ?_; refine Qx rfl rfl rfl ?_)
  refine Q6 76 rfl (fun g => absurd g (by omega)) (fun _ => ?_)
  (refine Qx rfl rfl rfl ?_; refine Qm rfl rfl rfl ?_; refine QU rfl rfl rfl rfl ?_; refine Qj (hK _ _ (Qz (Xv rfl (Q1 (Qz ?_))))); clear hK K; refine Qq (fun K hK => ?_); refine Qk (iadd (by omega) (by omega)) rfl rfl rfl rfl ?_; refine Qx rfl rfl rfl ?_; refine Qj (hK _ _ (Q3 ?_)); clear hK K)
  refine Qn 2 ?_
  refine Qn 1 ?_
  refine Q9 (i + 1) (by omega) (by omega) (by exact QX rfl ⟨rfl, rfl, rfl, rfl, rfl, rfl, by simp only [Int.natCast_add]; rfl, trivial⟩)
end Go.Proofs.YtlkdkbdgnjcopaaGreat
namespace Go.Proofs.YtlkdkbdgnjcopaaGreat
open Go.Own Go.Limbs
section
variable {H : Type} {enc : TypeId × Value → H} {P : Program} {w : World} {base : Nat} {spare : Nat → Bool} {held : Bool}
theorem slice_in {α : Type} {t e : TypeId} {n fuel : Nat} {cs0 : List Value} {x : DataW H × List MemPlace} (ht : P.underlying t = some (.slice e)) (hn : P.cellsOf e = n) (hn0 : 0 < n) (f : α → List CT) (hf : ∀ z, (f z).length = n) (good : α → Prop)
    (hE : ∀ m cs y, DataW.trod enc P w base spare held m e cs = some y → cs.length = n → ∃ z, cells (fun _ => True) w (f z) cs ∧ good z)
    (h : DataW.trod enc P w base spare held fuel t cs0 = some x) : ∃ (v : Value) (zs : List α), cs0 = [v] ∧ zs.length ≤ 9223372036854775807 ∧ (∀ z ∈ zs, good z) ∧ (CT.fr (sliceT n (zs.map f))).p (fun _ => True) w v := by
  rcases DataW.trod_slice ht h with ⟨h0, _⟩ | ⟨a, len, cap, elems, rest, m, _, rfl, rfl, _, hl, hm, hlen, hel, _⟩
  · exact ⟨_, [], h0, Nat.zero_le _, (fun z hz => nomatch hz), nil_is n _ w⟩
  rw [hn] at hel
  have key : ∀ k, k ≤ len → ∃ (zs : List α) (vs : List Value), zs.length = k ∧ (∀ z ∈ zs, good z) ∧ cells (fun _ => True) w (zs.map f).flatten vs ∧ vs.length = k * n ∧ ∀ i u, vs[i]? = some u → w.cell? (a.add i) = some u := by
    intro k
    induction k with
    | zero => intro _; exact ⟨[], [], rfl, (fun z hz => nomatch hz), trivial, (Nat.zero_mul n).symm, fun i u hu => by simp at hu⟩
    | succ k ih =>
      intro hk
      obtain ⟨zs, vs, e1, e2, e3, e4, e5⟩ := ih (by omega)
      have h1 := hel k (by omega)
      rw [List.getElem?_eq_getElem (show k < elems.length by omega), Option.bind_eq_some_iff] at h1
      obtain ⟨cs, h2, h3⟩ := h1
      obtain ⟨_, h4, h5⟩ := World.cells?_some h2
      obtain ⟨z, h6, h7⟩ := hE _ _ _ h3 h4
      refine ⟨zs ++ [z], vs ++ cs, by simp [e1], ?_, ?_, by rw [List.length_append, e4, h4, Nat.succ_mul], ?_⟩
      · intro y hy
        rcases List.mem_append.1 hy with hy | hy
        · exact e2 y hy
        · rw [List.mem_singleton.1 hy]; exact h7
      · rw [List.map_append, List.flatten_append]
        refine cells.append e3 ?_
        simpa using h6
      · intro i u hu
        rcases Nat.lt_or_ge i (k * n) with hi | hi
        · rw [List.getElem?_append_left (by omega)] at hu
          exact e5 i u hu
        · rw [List.getElem?_append_right (by omega), e4] at hu
          have hlt : i - k * n < n := by
            have := (List.getElem?_eq_some_iff.1 hu).1
            omega
          have := h5 (i - k * n) hlt
          rw [Addr.add_add, show k * n + (i - k * n) = i by omega] at this
          rw [this, hu]
  obtain ⟨zs, vs, e1, e2, e3, e4, e5⟩ := key len (Nat.le_refl _)
  have hmx : maxLen = 9223372036854775807 := by decide
  refine ⟨_, zs, rfl, by omega, e2, some a, cap, by rw [List.length_map, e1], by rw [List.length_map, e1]; exact hl, hm, fun y hy => by obtain ⟨z, _, rfl⟩ := List.mem_map.1 hy; exact hf z, fun hne => ?_⟩
  have hpos : 0 < len := by
    rcases Nat.eq_zero_or_pos len with h0 | h0
    · rw [h0] at e1; rw [List.length_eq_zero_iff.1 e1] at hne; exact absurd rfl hne
    · exact h0
  have hvl : 0 < vs.length := by rw [e4]; exact Nat.mul_pos hpos hn0
  have h0 := e5 0 _ (List.getElem?_eq_getElem hvl)
  obtain ⟨b, o, sp⟩ := a
  have hsp : sp = none ∧ b < w.heap.size := by
    simp only [Addr.add, if_true, World.cell?] at h0
    cases e : w.heap[b]? with
    | none => rw [e] at h0; cases h0
    | some ob =>
      rw [e] at h0
      cases ob with
      | cells c t r =>
        refine ⟨?_, Zu e⟩
        cases sp with
        | none => rfl
        | some q => simp at h0
      | _ => cases h0
  obtain ⟨rfl, hb⟩ := hsp
  refine ⟨b, o, rfl, trivial, hb, vs, e3, fun i u hu => ?_⟩
  have h1 := e5 i u hu
  have h3 : (⟨b, o, none⟩ : Addr).add i = ⟨b, o + i, none⟩ := by
    unfold Addr.add
    split
    · rename_i h; subst h; rfl
    · rfl
  rw [h3] at h1
  exact h1
theorem bytes_in {t e : TypeId} {fuel : Nat} {cs0 : List Value} {x : DataW H × List MemPlace} (ht : P.underlying t = some (.slice e)) (he : P.underlying e = some (.int .u8)) (hn : P.cellsOf e = 1)
    (h : DataW.trod enc P w base spare held fuel t cs0 = some x) : ∃ (v : Value) (zs : List Int), cs0 = [v] ∧ (∀ z ∈ zs, 0 ≤ z ∧ z < 256) ∧ (bytesC zs).p (fun _ => True) w v := by
  obtain ⟨v, zs, h1, _, h2, h3⟩ := slice_in ht hn (by decide) (fun z : Int => [CT.ex (Value.int .u8 z)]) (fun _ => rfl) (fun z => 0 ≤ z ∧ z < 256) (fun m cs y hy _ => by
    obtain ⟨z, rfl, _, hw⟩ := DataW.trod_int he hy
    exact ⟨z, ⟨rfl, trivial⟩, by have := bounds_u8 hw; omega⟩) h
  exact ⟨v, zs, h1, h2, h3⟩
end
end Go.Proofs.YtlkdkbdgnjcopaaGreat
namespace Go.Proofs.YtlkdkbdgnjcopaaGreat.lossCovers
open Go.ChangeShapes Go.WideShapes Go.ChangeAt Go.RowKit
open Go.ChangeMaps (open_string shut_string)
set_option linter.unusedVariables false
theorem own : ownKnob Tryz.prog.godebug = none := by kernel_rfl
theorem laidOut : laidOutB Tryz.prog = true := by kernel_rfl
set_option maxRecDepth 100000 in
theorem lifted (os : Os) (started : os.Started) (H : Type) (enc : TypeId × Value → H) :
    ReturnsInHanded {} Tryz.checked os 8 .any (Rows.lossCoversSpec.pre6 enc Tryz.prog Tryz.f8 Rows.lossCoversRow.domain false) (Rows.lossCoversSpec.post enc Tryz.prog Tryz.f8 false true false false) := by
  refine returnsInHanded_of_change (C := Tryz.checked) own started (by kernel_rfl) Tryz.func8
    (ChangeSpec.witness6 (enc := enc) (C := Tryz.checked) false ⟨#[], #[.slice none 0 0], []⟩ 8 (by kernel_rfl) (by kernel_rfl) (by kernel_rfl) (by kernel_rfl)) ?_
  intro W base args ds gs before hval0 hW hcnd _
  have hval : ∀ (j : Nat) t v, Tryz.f8.params[j]? = some t → args[j]? = some v → Value.okWide Tryz.prog W .any base t v := hval0
  have hW' := hW
  obtain ⟨p, q, hA0, hV, rfl, hfz, hnd⟩ := hW
  have hA : DataW.TrodAll enc Tryz.prog W 0 (fun _ => true) true Tryz.f8.params.toList args.toList ds p := hA0
  rw [Tryz.params8] at hA hval
  obtain ⟨v0, vs0, d0, ds0, p0, q0, hargs0, rfl, rfl, h0, r0⟩ := trodAll_cons hA
  obtain ⟨rfl, rfl, rfl⟩ := trodAll_nil r0
  obtain rfl : args = #[v0] := by cases args; simp_all
  obtain ⟨rfl, rfl⟩ := trodVars_none hV
  obtain ⟨a0, len0, cap0, rfl⟩ := okWide_slice Tryz.underlying22 (hval 0 22 v0 rfl rfl)
  have k0 := h0
  have lt0 : ∀ x ∈ p0, x.block < W.heap.size := by obtain ⟨m, hm⟩ := k0; exact DataW.trod_lt m _ _ _ hm
  obtain ⟨f0, t0⟩ := h0
  obtain ⟨u0, z0, e0, c0, w0⟩ := bytes_in Tryz.underlying22 Tryz.underlying5 (by kernel_rfl) t0
  have e0 : Value.slice a0 len0 cap0 = u0 := by simpa [Value.cells] using e0
  subst e0
  clear hA0 hval0
  refine (((LossCovers_ok z0 c0) (fun _ => True) W [.slice a0 len0 cap0] (fun _ _ => trivial) ⟨w0, trivial⟩)).mono fun e W' ⟨v, he, hv, bel⟩ => ?_
  have hv : v = .bool true := hv
  subst hv he
  exact ⟨_, rfl, _, _, _, [], _, [], hW', trodAll_mk1 (shut_bool Tryz.underlying4 _), (trodAll_cons_mk (Below.trod laidOut (by kernel_rfl) (of_decide_eq_true (by kernel_rfl)) k0 bel.kit lt0) trodAll_mk0), rfl, bel.kit.frame _, fun h => by cases h⟩
theorem over : Rows.lossCoversRow.holds Tryz.pinned (OpenSpec.ofChange Rows.lossCoversSpec) :=
  OpenClaim.holds_of_wide 8 Tryz.f8 rfl rfl rfl rfl rfl rfl rfl ⟨rfl, rfl, rfl, rfl, rfl⟩ rfl rfl rfl rfl rfl (by kernel_rfl) Tryz.func8 (by kernel_rfl)
    (of_decide_eq_true (by kernel_rfl)) (by unfold Func.isWrapper; first | (rw [if_pos (by decide +kernel)]; kernel_rfl) | (rw [if_neg (by decide +kernel)]; exact ⟨rfl, rfl⟩))
    (fun os started H enc _ => lifted os started H enc)
theorem proved : Rows.LossCoversSaid := over
#print axioms proved
end Go.Proofs.YtlkdkbdgnjcopaaGreat.lossCovers
