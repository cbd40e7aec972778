/- The proof that LossTruth holds for every input, without conditions: part 4 of 4. -/
import Derived.Test.YtlkdkbdgnjcopaaGreatZ3
import Derived.Test.YtlkdkbdgnjcopaaGreatRows
import Derived.ProofKit
import Derived.OpenShut
import Derived.ShutString
import Derived.ChangeOld
namespace Go.Proofs.YtlkdkbdgnjcopaaGreat
open Go.Own Go.Limbs
attribute [local irreducible] Go.Own.Fin Ok Ops St
theorem rOrder_ok (x y : Int) : Ok Tryz.prog 171 [intC x, intC y] (intC (cmpI x y)) := by
  refine Ok.enter Tryz.func171 J _ Tryz.ntmps171 J ?_
  intro S w; refine Qy (Qq fun K hK => ?_); refine Qv J J J (Qj (hK _ _ (Qx (Qy (Qy ?_))))); clear hK K; refine Qq (fun K hK => ?_); refine Qz J J J (Qz J J J (Qk ilss J J J J (Qj (hK _ _ (Qx ?_))))); clear hK K; refine Q1 J (fun h => ?_) (fun h => ?_)
  · refine Qy (Qq fun K hK => ?_); refine Qv J J J (Qj (hK _ _ (Qx (QU (QV ?_))))); clear hK K; refine QW [_] rfl (QQ J QX) (by rw [X4, if_pos h]; rfl) J
  · refine Q0 (Qx (Qy (Qy (Qq fun K hK => ?_)))); refine Qz J J J (Qz J J J (Qk igtr J J J J (Qj (hK _ _ (Qx ?_))))); clear hK K; refine Q1 J (fun h2 => ?_) (fun h2 => ?_)
    · refine Qy (Qq fun K hK => ?_); refine Qv J J J (Qj (hK _ _ (Qx (QU (QV ?_))))); clear hK K; refine QW [_] rfl (QQ J QX) (by rw [X4, if_neg h, if_pos h2]; rfl) J
    · refine Q0 (Qx (Qy (Qq fun K hK => ?_))); refine Qv J J J (Qj (hK _ _ (Qx (QU ?_)))); clear hK K; refine QW [_] rfl (QQ J QX) (by rw [X4, if_neg h, if_neg h2]; rfl) J
theorem gorOrder : InGo Tryz.prog 171 := InGo.of Tryz.func171 (by kernel_rfl) (by kernel_rfl)
theorem rTrim_ok (xs : List Int) (hl : xs.length < 4611686018427387904) : Ok Tryz.prog 136 [intsC xs] (intsC (trimL xs)) := by
  refine Ok.enter Tryz.func136 J _ Tryz.ntmps136 J ?_
  intro S w; refine Qy (Qq fun K hK => ?_); refine Qv J J J (Qj (hK _ _ (Qx (Qy (Q2 ?_))))); clear hK K
  refine Xz (α := List Int) (fun ys => trimL ys = trimL xs ∧ ys.length ≤ xs.length) (fun ys => [(0, .ct (intsC ys))]) (fun _ => []) (fun ys => ys.length) xs ⟨rfl, Nat.le_refl _⟩ (Entails.sub ⟨rfl, trivial⟩) ?_
  intro ys ⟨hy, hle⟩; refine Qy (Qy (Qq fun K hK => ?_)); refine Qz J J J (Qd J J sNat.und (List.length_map ..) J (Qk igtr J J J J (Qz J J J (Qc 6 J (fun h => ?_) (fun h => ?_)))))
  · have e1 : ((ys.length : Int) - 1).toNat = ys.length - 1 := by omega
    refine Qz J J J (Qz J J J (Qd J J sNat.und (List.length_map ..) J (Qk (isub (by omega) (by omega)) J J J J ?_)))
    refine Qm J J J sNat (by omega) (XV (by omega) (by omega)) J ?_
    refine Xx J J J lInt J (Qk ieql J J J J (QK J J J J (Qj (hK _ _ (Qx ?_))))); clear hK K; refine Q1 J (fun h2 => ?_) (fun h2 => ?_)
    · rw [e1] at h2; refine Q0 (Qx (Q2 (Qq fun K hK => ?_))); refine Qz J J J (Qz J J J (Qd J J sNat.und (List.length_map ..) J (Qk (isub (by omega) (by omega)) J J J J ?_)))
      refine Ops.cutHi J J J sNat (by omega) (by simp) J ?_
      rw [← List.map_take]; refine Qv J J J (Qj (hK _ _ (Q3 (Q4 ?_)))); clear hK K; refine Q9 (ys.take ((ys.length : Int) - 1).toNat) (by simp; omega) ⟨?_, by simp; omega⟩ (Entails.sub ⟨rfl, trivial⟩); rw [e1, ← hy]; exact trim_last (by omega) h2
    · rw [e1] at h2; refine Qo (Qx (Qy (Qq fun K hK => ?_))); refine Qz J J J (Qv J J J (Qj (hK _ _ (Qx (QU ?_))))); clear hK K; refine QW [_] rfl (QQ J QX) (by rw [← hy, trim_done (fun _ => h2)]; rfl) J
  · refine Qw J J J (Qw J J J (Qw J J J (Qw J J J (Qw J J J (Qw J J J (Qw J J J (Q6 J J J J (Qj (hK _ _ (Qx (Xy J (Qo (Qx (Qy ?_)))))))))))))); clear hK K; refine Qq (fun K hK => ?_); refine Qz J J J (Qv J J J (Qj (hK _ _ (Qx (QU ?_))))); clear hK K; refine QW [_] rfl (QQ J QX) (by rw [← hy, trim_done (fun h3 => absurd h3 (by omega))]; rfl) J
theorem gorTrim : InGo Tryz.prog 136 := InGo.of Tryz.func136 (by kernel_rfl) (by kernel_rfl)
set_option maxHeartbeats 2000000 in
theorem rCompare_ok (a b : Nat) (ha : (limbs a).length < 4611686018427387904) (hb : (limbs b).length < 4611686018427387904) : Ok Tryz.prog 133 [natC a, natC b] (intC (cmpI a b)) := by
  refine Ok.enter Tryz.func133 J _ Tryz.ntmps133 J ?_
  intro S w; refine Qy (Qq fun K hK => ?_); refine Qv J J J (Qj (hK _ _ (Qx (Qy (Qy ?_))))); clear hK K; refine Qq (fun K hK => ?_); refine Qz J J J (Qd J J sNat.und (List.length_map ..) J (Qz J J J (Qd J J sNat.und (List.length_map ..) J (Qk ineq J J J J (Qj (hK _ _ (Qx ?_))))))); clear hK K; refine Q1 J (fun h => ?_) (fun h => ?_)
  · have e : cmpI ((limbs a).length : Int) ((limbs b).length : Int) = cmpI (a : Int) (b : Int) := by
      rcases Nat.lt_trichotomy (limbs a).length (limbs b).length with h1 | h1 | h1
      · have := lt_of_len h1; rw [X4, X4, if_pos (by omega), if_pos (by omega)]
      · omega
      · have := lt_of_len h1; rw [X4, X4, if_neg (by omega), if_pos (by omega), if_neg (by omega), if_pos (by omega)]
    refine Qy (Qq fun K hK => ?_); refine Qz J J J (Qd J J sNat.und (List.length_map ..) J (Qz J J J (Qd J J sNat.und (List.length_map ..) J (QZ gorOrder (rOrder_ok _ _) J J J J (Qv J J J (Qj (hK _ _ (Qx (QU (QV ?_)))))))))); clear hK K; refine QW [_] rfl (QQ J QX) (by rw [← e]; rfl) J
  · have hl : (limbs a).length = (limbs b).length := by omega
    clear h; refine Q0 (Qx (Qy (Qy (Qq fun K hK => ?_)))); refine Qz J J J (Qd J J sNat.und (List.length_map ..) J (Qk (isub (by omega) (by omega)) J J J J ?_)); refine Qv J J J (Qj (hK _ _ (Qx (Q2 ?_)))); clear hK K
    refine Xz (α := Nat) (fun k => k ≤ (limbs a).length ∧ pre (limbs a) k - pre (limbs b) k = (a : Int) - b)
      (fun k => [(0, .ct (natC a)), (1, .ct (natC b)), (5, .ct (intC ((k : Int) - 1)))]) (fun _ => []) (fun k => k) (limbs a).length ⟨Nat.le_refl _, ?_⟩ (by exact Qu J ⟨rfl, rfl, rfl, trivial⟩) ?_
    · have e1 := val_eq_pre a; have e2 := val_eq_pre b; rw [← hl] at e2; rw [e1, e2]
    intro k ⟨hk, hv⟩; dsimp only; refine Qy (Qy (Qq fun K hK => ?_)); refine Qz J J J (Qk igeq J J J J (Qj (hK _ _ (Qx ?_)))); clear hK K; refine Q1 J (fun h => ?_) (fun h => ?_)
    · obtain ⟨q, rfl⟩ : ∃ q, k = q + 1 := ⟨k - 1, by omega⟩
      have e1 : (((q + 1 : Nat) : Int) - 1) = (q : Int) := by omega
      have e2 : (q : Int).toNat = q := Int.toNat_natCast q; rw [e1]; refine Q0 (Qx (Qy (Q2 (Qy ?_)))); refine XJ mixed 9 (.p 0 (.p 1 (.p 2 (.p 4 (.p 5 (.p 6 (.f 3 (.f 7 (.p 8 .done))))))))) (by kernel_rfl) (fun K hK => ?_); refine Qz J J J (Qz J J J (Qm J J J sNat (by omega) (XV (by omega) (by omega)) J ?_)); refine Qz J J J (Qz J J J (Qm J J J sNat (by omega) (XV (by omega) (by omega)) J ?_)); refine Xx J J J lInt J (Xx J J J lInt J (Qk ineq J J J J (Qj (hK _ _ (Qx ?_))))); clear hK K; refine Q1 J (fun h2 => ?_) (fun h2 => ?_)
      · rw [e2] at h2
        have e : cmpI ((limbs a).getD q 0) ((limbs b).getD q 0) = cmpI (a : Int) (b : Int) := by
          rcases Int.lt_or_gt_of_ne h2 with h3 | h3
          · have := pre_decides (X2 a) (X2 b) h3; rw [X4, X4, if_pos h3, if_pos (by omega)]
          · have := pre_decides (X2 b) (X2 a) h3; rw [X4, X4, if_neg (by omega), if_pos h3, if_neg (by omega), if_pos (by omega)]
        refine Qy (XJ mixed 10 (.p 0 (.p 1 (.p 2 (.p 4 (.p 5 (.p 6 (.f 3 (.f 7 (.m 8 (.p 9 .done)))))))))) (by kernel_rfl) (fun K hK => ?_)); refine Qz J J J (Qz J J J (Qm J J J sNat (by omega) (XV (by omega) (by omega)) J ?_)); refine Qz J J J (Qz J J J (Qm J J J sNat (by omega) (XV (by omega) (by omega)) J ?_)); refine Xx J J J lInt J (Xx J J J lInt J (QZ gorOrder (rOrder_ok _ _) J J J J ?_)); rw [e2]; refine Qv J J J (Qj (hK _ _ (Qx (QU (Q5 (QV (QV (Q5 (QV ?_))))))))); clear hK K; refine QW [_] rfl (QQ J QX) (by rw [← e]; rfl) J
      · rw [e2] at h2; refine Q0 (Qx (Qq fun K hK => ?_)); refine Qz J J J (Qk (isub (by omega) (by omega)) J J J J ?_); refine Qv J J J (Qj (hK _ _ (Q4 ?_))); clear hK K; refine Q9 q (by omega) ⟨by omega, ?_⟩ (by exact Qu J ⟨rfl, rfl, rfl, trivial⟩); rw [Xa, Xa] at hv; have : (limbs a).getD q 0 = (limbs b).getD q 0 := Classical.not_not.1 h2; rw [this] at hv; omega
    · have hk0 : k = 0 := by omega
      subst hk0; rw [ZJ, ZJ] at hv; refine Qo (Qx (Qy (Qq fun K hK => ?_))); refine Qv J J J (Qj (hK _ _ (Qx (QU ?_)))); clear hK K; refine QW [_] rfl (QQ J QX) (by rw [X4, if_neg (by omega), if_neg (by omega)]; rfl) J
theorem gorCompare : InGo Tryz.prog 133 := InGo.of Tryz.func133 (by kernel_rfl) (by kernel_rfl)
theorem Zi (xs : List Int) (i : Nat) : Ok Tryz.prog 170 [intsC xs, intC i] (intC (xs.getD i 0)) := by
  refine Ok.enter Tryz.func170 J _ Tryz.ntmps170 J ?_
  intro S w; refine Qy (Qq fun K hK => ?_); refine Qv J J J (Qj (hK _ _ (Qx (Qy (Qy ?_))))); clear hK K; refine Qq (fun K hK => ?_); refine Qz J J J (Qz J J J (Qd J J sNat.und (List.length_map ..) J (Qk ilss J J J J (Qj (hK _ _ (Qx ?_)))))); clear hK K; refine Q1 J (fun h => ?_) (fun h => ?_)
  · have e2 : (i : Int).toNat = i := Int.toNat_natCast i; refine Qy (Qq fun K hK => ?_); refine Qz J J J (Qz J J J (Qm J J J sNat (by omega) (XV (by omega) (by omega)) J ?_)); refine Xx J J J lInt J (Qv J J J (Qj (hK _ _ (Qx (QU (QV ?_)))))); clear hK K; rw [e2]; skip; refine QW [_] rfl (QQ J QX) J J
  · refine Q0 (Qx (Qy (Qq fun K hK => ?_))); refine Qv J J J (Qj (hK _ _ (Qx (QU ?_)))); clear hK K; refine QW [_] rfl (QQ J QX) (by rw [List.getD_eq_getElem?_getD, List.getElem?_eq_none (by omega)]; rfl) J
theorem gorlimb : InGo Tryz.prog 170 := InGo.of Tryz.func170 (by kernel_rfl) (by kernel_rfl)
theorem limbs_top {n : Nat} (h : 0 < (limbs n).length) : (limbs n).getD ((limbs n).length - 1) 0 ≠ 0 := fun h0 => by
  have h1 := trim_last h h0
  rw [trim_of_limbs] at h1
  have h2 := trim_len ((limbs n).take ((limbs n).length - 1))
  rw [h1] at h2
  simp at h2; omega
theorem getD_past {xs : List Int} {i : Nat} (h : xs.length ≤ i) : xs.getD i 0 = 0 := by
  rw [List.getD_eq_getElem?_getD, List.getElem?_eq_none (by omega)]; rfl
set_option maxHeartbeats 2000000 in
theorem rPlus_ok (a b : Nat) (ha : (limbs a).length ≤ 1000000) (hb : (limbs b).length ≤ 1000000) : Ok Tryz.prog 131 [natC a, natC b] (natC (a + b)) := by
  refine Ok.enter Tryz.func131 J _ Tryz.ntmps131 J ?_
  intro S w; refine Qy (Qq fun K hK => ?_); refine Qv J J J (Qj (hK _ _ (Qx (Qy ?_)))); clear hK K; refine Qq (fun K hK => ?_); refine Qv J J J (Qj (hK _ _ (Qx (Qy ?_)))); clear hK K; refine Qq (fun K hK => ?_); refine Qv J J J (Qj (hK _ _ (Qx (Qy (Qy ?_))))); clear hK K; refine Qq (fun K hK => ?_); refine Qv J J J (Qj (hK _ _ (Qx (Q2 ?_)))); clear hK K
  refine Xg 5 0 3 1 J J J ?_
  skip
  refine Xz (α := Nat × List Int × Int) (fun s => s.2.1.length = s.1 ∧ OKL s.2.1 ∧ 0 ≤ s.2.2 ∧ s.2.2 ≤ 1 ∧ (s.1 ≤ max (limbs a).length (limbs b).length ∨ s.2.2 = 0) ∧ s.1 ≤ max (limbs a).length (limbs b).length + 1 ∧ val s.2.1 + s.2.2 * BB ^ s.1 = pre (limbs a) s.1 + pre (limbs b) s.1 ∧
      (max (limbs a).length (limbs b).length ≤ s.1 → s.2.2 = 0 → trimL s.2.1 = s.2.1))
    (fun s => [(0, .ct (natC a)), (1, .ct (natC b)), (5, .own 0), (6, .ct (intC s.2.2)), (7, .ct (intC s.1))]) (fun s => [(0, .row 3 1 (ints s.2.1))])
    (fun s => 2 * (max (limbs a).length (limbs b).length - s.1) + s.2.2.toNat) (0, [], 0) ⟨rfl, OKL.nil, by decide, by decide, .inr J, Nat.zero_le _, by simp [val, ZJ], fun _ _ => rfl⟩ (by exact Qu J ⟨rfl, rfl, rfl, rfl, rfl, trivial⟩) ?_
  rintro ⟨i, zs, c⟩ ⟨hz, hok, hc0, hc1, hor, hi, hv, ht⟩
  dsimp only at hz hok hc0 hc1 hor hi hv ht ⊢; have b1 := (X2 a).get i; have b2 := (X2 b).get i; have t1 := limbs_top (n := a); have t2 := limbs_top (n := b); have p1 := getD_past (xs := limbs a) (i := i); have p2 := getD_past (xs := limbs b) (i := i); simp only [BB] at b1 b2
  have step : ((i : Int) < (limbs a).length ∨ (i : Int) < (limbs b).length ∨ 0 < c) →
      (2 * (max (limbs a).length (limbs b).length - (i + 1)) + ((((limbs a).getD i 0 + (limbs b).getD i 0 + c) / 1073741824).toNat) < 2 * (max (limbs a).length (limbs b).length - i) + c.toNat) ∧
      ((zs ++ [((limbs a).getD i 0 + (limbs b).getD i 0 + c) % 1073741824]).length = i + 1 ∧ OKL (zs ++ [((limbs a).getD i 0 + (limbs b).getD i 0 + c) % 1073741824]) ∧ 0 ≤ ((limbs a).getD i 0 + (limbs b).getD i 0 + c) / 1073741824 ∧ ((limbs a).getD i 0 + (limbs b).getD i 0 + c) / 1073741824 ≤ 1 ∧ (i + 1 ≤ max (limbs a).length (limbs b).length ∨ ((limbs a).getD i 0 + (limbs b).getD i 0 + c) / 1073741824 = 0) ∧ i + 1 ≤ max (limbs a).length (limbs b).length + 1 ∧ val (zs ++ [((limbs a).getD i 0 + (limbs b).getD i 0 + c) % 1073741824]) + ((limbs a).getD i 0 + (limbs b).getD i 0 + c) / 1073741824 * BB ^ (i + 1) = pre (limbs a) (i + 1) + pre (limbs b) (i + 1) ∧
      (max (limbs a).length (limbs b).length ≤ i + 1 → ((limbs a).getD i 0 + (limbs b).getD i 0 + c) / 1073741824 = 0 → trimL (zs ++ [((limbs a).getD i 0 + (limbs b).getD i 0 + c) % 1073741824]) = zs ++ [((limbs a).getD i 0 + (limbs b).getD i 0 + c) % 1073741824])) := by
    intro hgo; refine ⟨by omega, by simp [hz], hok.append (OKL.cons (by simp only [BB]; omega) OKL.nil), by omega, by omega, by omega, by omega, ?_, ?_⟩
    · rw [val_append, hz, Xa, Xa]; have e := Int.mul_ediv_add_emod ((limbs a).getD i 0 + (limbs b).getD i 0 + c) 1073741824; clear t1 t2 p1 p2 ht hor hgo; simp only [val, BB] at *; generalize ((limbs a).getD i 0 + (limbs b).getD i 0 + c) / 1073741824 = q at *; generalize ((limbs a).getD i 0 + (limbs b).getD i 0 + c) % 1073741824 = m at *
      grind
    · intro hm hcz
      refine trim_id ?_
      have hx : (limbs a).getD i 0 + (limbs b).getD i 0 + c ≠ 0 := by
        rcases hgo with hg | hg | hg
        · rcases Nat.lt_or_ge (i + 1) (limbs a).length with h5 | h5
          · omega
          · have e5 : (limbs a).length - 1 = i := by omega
            rw [e5] at t1; have := t1 (by omega); omega
        · rcases Nat.lt_or_ge (i + 1) (limbs b).length with h5 | h5
          · omega
          · have e5 : (limbs b).length - 1 = i := by omega
            rw [e5] at t2; have := t2 (by omega); omega
        · omega
      omega
  have fin : ¬ ((i : Int) < (limbs a).length ∨ (i : Int) < (limbs b).length ∨ 0 < c) → natC (a + b) = intsC zs := by
    intro hgo
    have hc : c = 0 := by omega
    have h1 := ht (by omega) hc; rw [hc, Int.zero_mul, Z7 (by omega), Z7 (by omega), Xp, Xp] at hv; rw [show intsC zs = intsC (trimL zs) by rw [h1], Zk hok, show (val zs).toNat = a + b by omega]
  have e2 : (i : Int).toNat = i := Int.toNat_natCast i; clear ht hor t1 t2 p1 p2; refine Qy (Qy (Qq fun K hK => ?_)); refine Qz J J J (Qz J J J (Qd J J sNat.und (List.length_map ..) J (Qk ilss J J J J (Qz J J J (Qc 13 J (fun g1 => ?_) (fun g1 => ?_))))))
  · have st := step (.inl g1); clear step fin; refine Qw J J J (Qw J J J (Qw J J J (Qw J J J (QK J J J J (Qz J J J (Qw J J J (Qw J J J (QK J J J J (Qj (hK _ _ (Qx (Qt J (Q0 (Qx (Qy (Q2 (Qy ?_))))))))))))))))); clear hK K; refine Qq (fun K hK => ?_); refine Qz J J J (Qz J J J (QZ gorlimb (Zi (limbs a) i) J J J J (Qz J J J (Qz J J J (QZ gorlimb (Zi (limbs b) i) J J J J (Qk (iadd (by omega) (by omega)) J J J J ?_)))))); refine Qz J J J (Qk (iadd (by omega) (by omega)) J J J J ?_); refine Qv J J J (Qj (hK _ _ (Qx (Qy ?_)))); clear hK K; refine Qq (fun K hK => ?_); refine Qz J J J (Qz J J J (Qk (irem (by omega) (by omega)) J J J J ?_)); refine Zz J J sNat J J J (Xk zs.length (ints (zs ++ [((limbs a).getD i 0 + (limbs b).getD i 0 + c) % 1073741824])) J J J J sNat (by simp [ints]) J (by omega) (by omega) (by simp [ints]) J ?_); refine Qv J J J (Qj (hK _ _ (Qx ?_))); clear hK K; refine Qq (fun K hK => ?_); refine Qz J J J (Qk (iquo (by omega) (by omega) (by omega)) J J J J ?_); refine Qv J J J (Qj (hK _ _ (Qx ?_))); clear hK K; refine Qq (fun K hK => ?_); refine Qz J J J (Qk (iadd (by omega) (by omega)) J J J J ?_); refine Qv J J J (Qj (hK _ _ (Q4 ?_)))
    clear hK K; refine Q9 (i + 1, zs ++ [((limbs a).getD i 0 + (limbs b).getD i 0 + c) % 1073741824], ((limbs a).getD i 0 + (limbs b).getD i 0 + c) / 1073741824) st.1 st.2 (by exact Qu J ⟨rfl, rfl, rfl, rfl, by simp only [Int.natCast_add]; rfl, trivial⟩)
  · refine Qz J J J (Qz J J J (Qd J J sNat.und (List.length_map ..) J (Qk ilss J J J J (Q6 J J J J (Qz J J J (Qc 19 J (fun g2 => ?_) (fun g2 => ?_)))))))
    · have st := step (.inr (.inl g2)); clear step fin; refine Qw J J J (Qw J J J (QK J J J J (Qj (hK _ _ (Qx (Qt J (Q0 (Qx (Qy (Q2 (Qy ?_))))))))))); clear hK K; refine Qq (fun K hK => ?_); refine Qz J J J (Qz J J J (QZ gorlimb (Zi (limbs a) i) J J J J (Qz J J J (Qz J J J (QZ gorlimb (Zi (limbs b) i) J J J J (Qk (iadd (by omega) (by omega)) J J J J ?_)))))); refine Qz J J J (Qk (iadd (by omega) (by omega)) J J J J ?_); refine Qv J J J (Qj (hK _ _ (Qx (Qy ?_)))); clear hK K; refine Qq (fun K hK => ?_); refine Qz J J J (Qz J J J (Qk (irem (by omega) (by omega)) J J J J ?_)); refine Zz J J sNat J J J (Xk zs.length (ints (zs ++ [((limbs a).getD i 0 + (limbs b).getD i 0 + c) % 1073741824])) J J J J sNat (by simp [ints]) J (by omega) (by omega) (by simp [ints]) J ?_); refine Qv J J J (Qj (hK _ _ (Qx ?_))); clear hK K; refine Qq (fun K hK => ?_); refine Qz J J J (Qk (iquo (by omega) (by omega) (by omega)) J J J J ?_); refine Qv J J J (Qj (hK _ _ (Qx ?_))); clear hK K; refine Qq (fun K hK => ?_); refine Qz J J J (Qk (iadd (by omega) (by omega)) J J J J ?_); refine Qv J J J (Qj (hK _ _ (Q4 ?_))); clear hK K
      refine Q9 (i + 1, zs ++ [((limbs a).getD i 0 + (limbs b).getD i 0 + c) % 1073741824], ((limbs a).getD i 0 + (limbs b).getD i 0 + c) / 1073741824) st.1 st.2 (by exact Qu J ⟨rfl, rfl, rfl, rfl, by simp only [Int.natCast_add]; rfl, trivial⟩)
    · refine Qz J J J (Qk igtr J J J J (Q6 J J J J (Qj (hK _ _ (Qx ?_))))); clear hK K; refine Q1 J (fun g3 => ?_) (fun g3 => ?_)
      · have st := step (.inr (.inr g3)); clear step fin; refine Q0 (Qx (Qy (Q2 (Qy (Qq fun K hK => ?_))))); refine Qz J J J (Qz J J J (QZ gorlimb (Zi (limbs a) i) J J J J (Qz J J J (Qz J J J (QZ gorlimb (Zi (limbs b) i) J J J J (Qk (iadd (by omega) (by omega)) J J J J ?_)))))); refine Qz J J J (Qk (iadd (by omega) (by omega)) J J J J ?_); refine Qv J J J (Qj (hK _ _ (Qx (Qy ?_)))); clear hK K; refine Qq (fun K hK => ?_); refine Qz J J J (Qz J J J (Qk (irem (by omega) (by omega)) J J J J ?_)); refine Zz J J sNat J J J (Xk zs.length (ints (zs ++ [((limbs a).getD i 0 + (limbs b).getD i 0 + c) % 1073741824])) J J J J sNat (by simp [ints]) J (by omega) (by omega) (by simp [ints]) J ?_); refine Qv J J J (Qj (hK _ _ (Qx ?_))); clear hK K; refine Qq (fun K hK => ?_); refine Qz J J J (Qk (iquo (by omega) (by omega) (by omega)) J J J J ?_); refine Qv J J J (Qj (hK _ _ (Qx ?_))); clear hK K; refine Qq (fun K hK => ?_); refine Qz J J J (Qk (iadd (by omega) (by omega)) J J J J ?_); refine Qv J J J (Qj (hK _ _ (Q4 ?_))); clear hK K
        refine Q9 (i + 1, zs ++ [((limbs a).getD i 0 + (limbs b).getD i 0 + c) % 1073741824], ((limbs a).getD i 0 + (limbs b).getD i 0 + c) / 1073741824) st.1 st.2 (by exact Qu J ⟨rfl, rfl, rfl, rfl, by simp only [Int.natCast_add]; rfl, trivial⟩)
      · have fe := fin (by omega); refine Z4 0 _ J (Xc _ _) XW (Qo (Qx (Qy (Qq fun K hK => ?_)))); refine Qz J J J (Qv J J J (Qj (hK _ _ (Qx (QU ?_))))); clear hK K; refine QW [_] rfl (QQ J QX) (by rw [fe]; rfl) J
theorem gorPlus : InGo Tryz.prog 131 := InGo.of Tryz.func131 (by kernel_rfl) (by kernel_rfl)
theorem val_sub_done {a b : Nat} {zs : List Int} {c : Int} (hok : OKL zs) (hzl : zs.length = (limbs a).length) (hb : b ≤ a) (hc0 : 0 ≤ c) (hc1 : c ≤ 1)
    (hv : val zs - c * BB ^ (limbs a).length = pre (limbs a) (limbs a).length - pre (limbs b) (limbs a).length) : trimL zs = limbs (a - b) := by
  have hlb := X1 hb; rw [Zk hok]; rw [Z7 (Nat.le_refl _), Z7 hlb, Xp, Xp] at hv; have hp : 0 < BB ^ (limbs a).length := Int.pow_pos (by decide); have h1 := pre_bd hok (limbs a).length; rw [Z7 (by omega)] at h1
  have hc : c = 0 := by
    rcases Int.lt_or_le 0 c with hc | hc
    · have : c = 1 := by omega
      subst this; rw [Int.one_mul] at hv; omega
    · omega
  subst hc; rw [Int.zero_mul] at hv
  congr 1; omega
theorem less_step {v c P A B x y d c' K : Int} (h : v - c * P = A - B) (e : x - y - c = d - c' * K) : v + P * d - c' * (P * K) = (A + x * P) - (B + y * P) := by
  have h2 : P * (x - y - c) = P * (d - c' * K) := by rw [e]
  grind
set_option maxHeartbeats 2000000 in
theorem rLess_ok (a b : Nat) (hb : b ≤ a) (hx : (limbs a).length ≤ 1000000) : Ok Tryz.prog 134 [natC a, natC b] (natC (a - b)) := by
  refine Ok.enter Tryz.func134 J _ Tryz.ntmps134 J ?_
  intro S w; refine Qy (Qq fun K hK => ?_); refine Qv J J J (Qj (hK _ _ (Qx (Qy ?_)))); clear hK K; refine Qq (fun K hK => ?_); refine Qv J J J (Qj (hK _ _ (Qx (Qy ?_)))); clear hK K; refine Qq (fun K hK => ?_); refine Qv J J J (Qj (hK _ _ (Qx (Qy (Qy ?_))))); clear hK K; refine Qq (fun K hK => ?_); refine Qv J J J (Qj (hK _ _ (Qx (Q2 ?_)))); clear hK K
  refine Xg 5 0 3 1 J J J ?_
  skip
  refine Xz (α := Nat × List Int × Int) (fun s => s.1 ≤ (limbs a).length ∧ s.2.1.length = s.1 ∧ OKL s.2.1 ∧ 0 ≤ s.2.2 ∧ s.2.2 ≤ 1 ∧ val s.2.1 - s.2.2 * BB ^ s.1 = pre (limbs a) s.1 - pre (limbs b) s.1)
    (fun s => [(0, .ct (natC a)), (1, .ct (natC b)), (5, .own 0), (6, .ct (intC s.2.2)), (7, .ct (intC s.1))])
    (fun s => [(0, .row 3 1 (ints s.2.1))])
    (fun s => (limbs a).length - s.1) (0, [], 0) ⟨Nat.zero_le _, rfl, OKL.nil, by decide, by decide, by simp [val, ZJ]⟩ (by exact Qu J ⟨rfl, rfl, rfl, rfl, rfl, trivial⟩) ?_
  rintro ⟨i, zs, c⟩ ⟨hi, hz, hok, hc0, hc1, hv⟩
  dsimp only at hi hz hok hc0 hc1 hv ⊢; refine Qy (Qy (Qq fun K hK => ?_)); refine Qz J J J (Qz J J J (Qd J J sNat.und (List.length_map ..) J (Qk ilss J J J J (Qj (hK _ _ (Qx ?_)))))); clear hK K; refine Q1 J (fun h => ?_) (fun h => ?_)
  · have b1 := (X2 a).get i; have b2 := (X2 b).get i; simp only [BB] at b1 b2; have e2 : (i : Int).toNat = i := Int.toNat_natCast i; refine Q0 (Qx (Qy (Q2 (Qy ?_)))); refine XJ mixed 11 (.p 0 (.p 1 (.p 2 (.p 4 (.p 5 (.p 8 (.f 3 (.m 6 (.p 7 (.p 9 (.p 10 .done))))))))))) (by kernel_rfl) (fun K hK => ?_); refine Qz J J J (Qz J J J (Qm J J J sNat (by omega) (XV (by omega) (by omega)) J ?_)); refine Qz J J J (Qz J J J (Qz J J J (Xx J J J lInt J ?_))); rw [e2]; skip; refine QZ gorlimb (Zi (limbs b) i) J J J J (Qk (isub (by omega) (by omega)) J J J J ?_)
    refine Qk (isub (by omega) (by omega)) J J J J ?_
    refine Qv J J J (Qj (hK _ _ (Qx (Qy ?_)))); clear hK K; refine Qq (fun K hK => ?_); refine Qv J J J (Qj (hK _ _ (Qx (Qy (Qy ?_))))); clear hK K; refine Qq (fun K hK => ?_); refine Qz J J J (Qk ilss J J J J (Qj (hK _ _ (Qx ?_)))); clear hK K; refine Q1 J (fun h2 => ?_) (fun h2 => ?_)
    · refine Qy (Qq fun K hK => ?_); refine Qz J J J (Qk (iadd (by omega) (by omega)) J J J J ?_); refine Qv J J J (Qj (hK _ _ (Qx ?_))); clear hK K; refine Qq (fun K hK => ?_); refine Qv J J J (Qj (hK _ _ (Qx ?_))); clear hK K; refine Qq (fun K hK => ?_); refine Qz J J J (Qz J J J (Zz J J sNat J J J (Xk zs.length (ints (zs ++ [(limbs a).getD i 0 - (limbs b).getD i 0 - c + 1073741824])) J J J J sNat (by simp [ints]) J (by omega) (by omega) (by simp [ints]) J ?_))); refine Qv J J J (Qj (hK _ _ (Qx ?_))); clear hK K; refine Qq (fun K hK => ?_); refine Qz J J J (Qk (iadd (by omega) (by omega)) J J J J ?_); refine Qv J J J (Qj (hK _ _ (Q4 ?_))); clear hK K; refine Q9 (i + 1, zs ++ [(limbs a).getD i 0 - (limbs b).getD i 0 - c + 1073741824], 1) (by dsimp only; omega) ⟨by dsimp only; omega, by simp [hz], ?_, by show (0 : Int) ≤ 1; decide, by show (1 : Int) ≤ 1; decide, ?_⟩ (by exact Qu J ⟨rfl, rfl, rfl, rfl, by simp only [Int.natCast_add]; rfl, trivial⟩)
      all_goals dsimp only
      · exact hok.append (OKL.cons (by simp only [BB]; omega) OKL.nil)
      · rw [val_append, hz, Xa, Xa, Int.pow_succ]; simp only [val, Int.mul_zero, Int.add_zero]; exact less_step hv (by simp only [BB]; omega)
    · refine Q0 (Qx (Qq fun K hK => ?_)); refine Qz J J J (Qz J J J (Zz J J sNat J J J (Xk zs.length (ints (zs ++ [(limbs a).getD i 0 - (limbs b).getD i 0 - c])) J J J J sNat (by simp [ints]) J (by omega) (by omega) (by simp [ints]) J ?_))); refine Qv J J J (Qj (hK _ _ (Qx ?_))); clear hK K; refine Qq (fun K hK => ?_); refine Qz J J J (Qk (iadd (by omega) (by omega)) J J J J ?_); refine Qv J J J (Qj (hK _ _ (Q4 ?_))); clear hK K; refine Q9 (i + 1, zs ++ [(limbs a).getD i 0 - (limbs b).getD i 0 - c], 0) (by dsimp only; omega) ⟨by dsimp only; omega, by simp [hz], ?_, by show (0 : Int) ≤ 0; decide, by show (0 : Int) ≤ 1; decide, ?_⟩ (by exact Qu J ⟨rfl, rfl, rfl, rfl, by simp only [Int.natCast_add]; rfl, trivial⟩)
      all_goals dsimp only
      · exact hok.append (OKL.cons (by simp only [BB]; omega) OKL.nil)
      · rw [val_append, hz, Xa, Xa, Int.pow_succ]; simp only [val, Int.mul_zero, Int.add_zero]; exact less_step hv (by simp only [BB]; omega)
  · have hi' : i = (limbs a).length := by omega
    subst hi'; have e4 := val_sub_done hok hz hb hc0 hc1 hv; refine Z4 0 _ J (Xc _ _) XW (Qo (Qx (Qy (Qq fun K hK => ?_)))); refine Qz J J J (QZ gorTrim (rTrim_ok zs (by omega)) J J J J ?_); rw [e4]; refine Qv J J J (Qj (hK _ _ (Qx (QU ?_)))); clear hK K; refine QW [_] rfl (QQ J QX) J J
theorem gorLess : InGo Tryz.prog 134 := InGo.of Tryz.func134 (by kernel_rfl) (by kernel_rfl)
set_option maxHeartbeats 2000000 in
theorem rhalf_ok (a : Nat) (hl : (limbs a).length ≤ 1000000) : Ok Tryz.prog 132 [natC a] (natC (a / 2)) := by
  refine Ok.enter Tryz.func132 J _ Tryz.ntmps132 J ?_
  intro S w; refine Qy (Qq fun K hK => ?_); refine Qv J J J (Qj (hK _ _ (Qx (Qy ?_)))); clear hK K; refine Qq (fun K hK => ?_); refine Qz J J J (Qd J J sNat.und (List.length_map ..) J (Ops.make 0 (limbs a).length J J J J sNat (by omega) (by omega) J J J ?_)); rw [ints_made]; refine Qv J J J (Qj (hK _ _ (Qx (Qy ?_)))); clear hK K; refine Qq (fun K hK => ?_); refine Qv J J J (Qj (hK _ _ (Qx (Qy (Qy ?_))))); clear hK K; refine Qq (fun K hK => ?_); refine Qz J J J (Qd J J sNat.und (List.length_map ..) J (Qk (isub (by omega) (by omega)) J J J J ?_)); refine Qv J J J (Qj (hK _ _ (Qx (Q2 ?_)))); clear hK K
  refine Xz (α := Nat × List Int × Int) (fun s => s.1 ≤ (limbs a).length ∧ s.2.1.length = (limbs a).length ∧ OKL s.2.1 ∧ (∀ j, j < s.1 → s.2.1.getD j 0 = 0) ∧ 0 ≤ s.2.2 ∧ s.2.2 < 2 ∧ val s.2.1 * 2 + s.2.2 * BB ^ s.1 = val (limbs a) - pre (limbs a) s.1)
    (fun s => [(0, .ct (natC a)), (3, .own 0), (4, .ct (intC s.2.2)), (5, .ct (intC ((s.1 : Int) - 1)))])
    (fun s => [(0, .row 3 1 (ints s.2.1))]) (fun s => s.1) ((limbs a).length, List.replicate (limbs a).length 0, 0) ⟨Nat.le_refl _, by simp, OKL.zeros _, ?_, Int.le_refl _, by show (0 : Int) < 2; decide, ?_⟩ (by exact Qu J ⟨rfl, rfl, rfl, rfl, trivial⟩) ?_
  · intro j _; simp [List.getD_eq_getElem?_getD, List.getElem?_replicate]; split <;> rfl
  · dsimp only; rw [val_zeros, Z7 (Nat.le_refl _)]; simp
  rintro ⟨q, zs, rest⟩ ⟨hq, hzl, hok, hz, hr0, hr1, hv⟩
  dsimp only at hq hzl hok hz hr0 hr1 hv ⊢; refine Qy (Qy (Qq fun K hK => ?_)); refine Qz J J J (Qk igeq J J J J (Qj (hK _ _ (Qx ?_)))); clear hK K; refine Q1 J (fun h => ?_) (fun h => ?_)
  · obtain ⟨i, rfl⟩ : ∃ i, q = i + 1 := ⟨q - 1, by omega⟩
    have e1 : (((i + 1 : Nat) : Int) - 1) = (i : Int) := by omega
    have e2 : (i : Int).toNat = i := Int.toNat_natCast i
    have e3 : (i : Int).toNat * 1 = i := by omega
    have bx := (X2 a).get i; simp only [BB] at bx; rw [e1]; refine Q0 (Qx (Qy (Q2 (Qy (Qq fun K hK => ?_))))); refine Qz J J J (Qz J J J (Qm J J J sNat (by omega) (XV (by omega) (by omega)) J ?_)); refine Xx J J J lInt J (Qz J J J (Qk (imul (by omega) (by omega)) J J J J ?_)); rw [e2]
    refine Qk (iadd (by omega) (by omega)) J J J J ?_
    refine Qv J J J (Qj (hK _ _ (Qx (Qy ?_)))); clear hK K; refine Qq (fun K hK => ?_); refine Qz J J J (Qz J J J (Qz J J J (Qk (iquo (by omega) (by omega) (by omega)) J J J J ?_))); rw [show (limbs a).getD i 0 + rest * 1073741824 = rest * 1073741824 + (limbs a).getD i 0 from Int.add_comm _ _]; skip
    refine ZQ (limbs a).length J J J (by simp [ints]; omega) J sNat (by omega) (by omega) J ?_
    rw [e3]
    refine Zx J J J J J zInt (by simp [Ent.cs, ints]; omega) ?_
    simp only [Ent.setc, ints_set]; refine Qj (hK _ _ (Qx ?_)); clear hK K; refine Qq (fun K hK => ?_); refine Qz J J J (Qk (irem (by omega) (by omega)) J J J J ?_); refine Qv J J J (Qj (hK _ _ (Qx ?_))); clear hK K; refine Qq (fun K hK => ?_); refine Qz J J J (Qk (isub (by omega) (by omega)) J J J J ?_); refine Qv J J J (Qj (hK _ _ (Q4 ?_))); clear hK K; refine Q9 (i, zs.set i ((rest * 1073741824 + (limbs a).getD i 0) / 2), (rest * 1073741824 + (limbs a).getD i 0) % 2) (by dsimp only; omega) ⟨by dsimp only; omega, by simp [hzl], ?_, ?_, by dsimp only; omega, by dsimp only; omega, ?_⟩ (by exact Qu J ⟨rfl, rfl, rfl, rfl, trivial⟩)
    all_goals dsimp only
    · exact hok.set _ (by simp only [BB]; omega)
    · intro j hj; rw [getD_set (by omega), if_neg (by omega)]; exact hz j (by omega)
    · rw [val_set (by omega), hz i (by omega), Int.sub_zero]; exact top_step hv
  · have hq0 : q = 0 := by omega
    subst hq0
    have e4 : val zs * 2 + rest = a := by rw [ZJ, Xp] at hv; simpa using hv
    have e5 : (val zs).toNat = a / 2 := by omega
    refine Z4 0 _ J (Xc _ _) XW (Qo (Qx (Qy (Qq fun K hK => ?_)))); refine Qz J J J (QZ gorTrim (rTrim_ok zs (by omega)) J J J J ?_); rw [Zk hok, e5]; refine Qv J J J (Qj (hK _ _ (Qx (QU ?_)))); clear hK K; refine QW [_] rfl (QQ J QX) J J
theorem gorhalf : InGo Tryz.prog 132 := InGo.of Tryz.func132 (by kernel_rfl) (by kernel_rfl)
set_option maxHeartbeats 4000000 in
theorem rTimes_ok (a b : Nat) (hx : (limbs a).length + (limbs b).length ≤ 1000000) : Ok Tryz.prog 135 [natC a, natC b] (natC (a * b)) := by
  refine Ok.enter Tryz.func135 Y _ Tryz.ntmps135 Y ?_
  intro S w; refine Qy (Qq fun K hK => ?_); refine Qv Y Y Y (Qj (hK _ _ (Qx (Qy ?_)))); clear hK K; refine Qq (fun K hK => ?_); refine Qz Y Y Y (Qd Y Y sNat.und (List.length_map ..) Y (Qz Y Y Y (Qd Y Y sNat.und (List.length_map ..) Y (Qk (iadd (by omega) (by omega)) Y Y Y Y ?_))))
  refine Ops.make 0 ((limbs a).length + (limbs b).length) Y Y Y (by omega) sNat (by omega) (by omega) Y Y Y ?_
  rw [ints_made]; refine Qv Y Y Y (Qj (hK _ _ (Qx (Qy (Qy ?_))))); clear hK K; refine Qq (fun K hK => ?_); refine Qv Y Y Y (Qj (hK _ _ (Qx (Q2 ?_)))); clear hK K
  refine Xz (α := Nat × List Int) (fun s => s.1 ≤ (limbs a).length ∧ s.2.length = (limbs a).length + (limbs b).length ∧ OKL s.2 ∧ (∀ j, s.1 + (limbs b).length ≤ j → s.2.getD j 0 = 0) ∧ val s.2 = pre (limbs a) s.1 * b)
    (fun s => [(0, .ct (natC a)), (1, .ct (natC b)), (5, .own 0), (6, .ct (intC s.1))])
    (fun s => [(0, .row 3 1 (ints s.2))])
    (fun s => (limbs a).length - s.1) (0, List.replicate ((limbs a).length + (limbs b).length) 0) ⟨Nat.zero_le _, by simp, OKL.zeros _, ?_, ?_⟩ (by exact Qu Y ⟨rfl, rfl, rfl, rfl, trivial⟩) ?_
  · intro j _; simp [List.getD_eq_getElem?_getD, List.getElem?_replicate]; split <;> rfl
  · rw [ZJ, val_zeros]; simp
  rintro ⟨i, out⟩ ⟨hi, hlen, hok, hz, hv⟩
  dsimp only at hi hlen hok hz hv ⊢; refine Qy (Qy (Qq fun K hK => ?_)); refine Qz Y Y Y (Qz Y Y Y (Qd Y Y sNat.und (List.length_map ..) Y (Qk ilss Y Y Y Y (Qj (hK _ _ (Qx ?_)))))); clear hK K; refine Q1 Y (fun h => ?_) (fun h => ?_)
  · have bx := (X2 a).get i; have eix : (i : Int).toNat = i := Int.toNat_natCast i; refine Q0 (Qx (Qy (Q2 (Qy (Qq fun K hK => ?_))))); refine Qv Y Y Y (Qj (hK _ _ (Qx (Qy ?_)))); clear hK K; refine Qq (fun K hK => ?_); refine Qv Y Y Y (Qj (hK _ _ (Qx (Q2 ?_)))); clear hK K
    refine Xz (α := Nat × List Int × Int) (fun s => (s.1 ≤ (limbs b).length ∨ s.2.2 = 0) ∧ s.1 ≤ (limbs b).length + 1 ∧ s.2.1.length = (limbs a).length + (limbs b).length ∧ OKL s.2.1 ∧ (∀ j, i + (limbs b).length + 1 ≤ j → s.2.1.getD j 0 = 0) ∧ (s.1 ≤ (limbs b).length → s.2.1.getD (i + (limbs b).length) 0 = 0) ∧ 0 ≤ s.2.2 ∧ s.2.2 < BB ∧
        val s.2.1 + s.2.2 * BB ^ (i + s.1) = val out + (limbs a).getD i 0 * pre (limbs b) s.1 * BB ^ i)
      (fun s => [(0, .ct (natC a)), (1, .ct (natC b)), (5, .own 0), (6, .ct (intC i)), (7, .ct (intC s.2.2)), (8, .ct (intC s.1))])
      (fun s => [(0, .row 3 1 (ints s.2.1))])
      (fun s => (limbs b).length + 2 - s.1) (0, out, 0) ⟨.inr Y, Nat.zero_le _, hlen, hok, fun j hj => hz j (by omega), fun _ => hz _ (Nat.le_refl _), Int.le_refl _, by show (0 : Int) < BB; decide, by rw [ZJ]; simp⟩ (by exact Qu Y ⟨rfl, rfl, rfl, rfl, rfl, rfl, trivial⟩) ?_
    rintro ⟨q, zs, c⟩ ⟨hqc, hq, hzl, hzok, hzz, hzt, hc0, hc1, hzv⟩
    dsimp only at hqc hq hzl hzok hzz hzt hc0 hc1 hzv ⊢
    have by' := (X2 b).get q
    have bz := hzok.get (i + q)
    have bm := mul_bd bx by'
    have hpast := getD_past (xs := limbs b) (i := q); simp only [BB] at bz hc1 bx; have eq1 : (q : Int).toNat = q := Int.toNat_natCast q
    have eiq : ((i : Int) + q).toNat * 1 = i + q := by omega
    have step : q ≤ (limbs b).length →
        ((limbs b).length + 2 - (q + 1) < (limbs b).length + 2 - q) ∧ ((q + 1 ≤ (limbs b).length ∨ (zs.getD (i + q) 0 + (limbs a).getD i 0 * (limbs b).getD q 0 + c) / 1073741824 = 0) ∧ q + 1 ≤ (limbs b).length + 1 ∧ (zs.set (i + q) ((zs.getD (i + q) 0 + (limbs a).getD i 0 * (limbs b).getD q 0 + c) % 1073741824)).length = (limbs a).length + (limbs b).length ∧ OKL (zs.set (i + q) ((zs.getD (i + q) 0 + (limbs a).getD i 0 * (limbs b).getD q 0 + c) % 1073741824)) ∧ (∀ j, i + (limbs b).length + 1 ≤ j → (zs.set (i + q) ((zs.getD (i + q) 0 + (limbs a).getD i 0 * (limbs b).getD q 0 + c) % 1073741824)).getD j 0 = 0) ∧ (q + 1 ≤ (limbs b).length → (zs.set (i + q) ((zs.getD (i + q) 0 + (limbs a).getD i 0 * (limbs b).getD q 0 + c) % 1073741824)).getD (i + (limbs b).length) 0 = 0) ∧ 0 ≤ (zs.getD (i + q) 0 + (limbs a).getD i 0 * (limbs b).getD q 0 + c) / 1073741824 ∧ (zs.getD (i + q) 0 + (limbs a).getD i 0 * (limbs b).getD q 0 + c) / 1073741824 < BB ∧
        val (zs.set (i + q) ((zs.getD (i + q) 0 + (limbs a).getD i 0 * (limbs b).getD q 0 + c) % 1073741824)) + (zs.getD (i + q) 0 + (limbs a).getD i 0 * (limbs b).getD q 0 + c) / 1073741824 * BB ^ (i + (q + 1)) = val out + (limbs a).getD i 0 * pre (limbs b) (q + 1) * BB ^ i) := by
      intro hqb; refine ⟨by omega, ?_, by omega, by simp [hzl], hzok.set _ (by simp only [BB]; omega), ?_, ?_, by omega, by simp only [BB]; omega, ?_⟩
      · rcases Nat.lt_or_ge q (limbs b).length with h5 | h5
        · exact .inl h5
        · have h6 : q = (limbs b).length := by omega
          right; have := hzt hqb; rw [← h6] at this; rw [this, hpast h5, Int.mul_zero]; omega
      · intro j hj; rw [getD_set (by omega), if_neg (by omega)]; exact hzz j hj
      · intro h5; rw [getD_set (by omega), if_neg (by omega)]; exact hzt hqb
      · rw [val_set (by omega), Xa, show i + (q + 1) = (i + q) + 1 by omega, Int.pow_succ, Int.pow_add]; rw [Int.pow_add] at hzv; have e := Int.mul_ediv_add_emod (zs.getD (i + q) 0 + (limbs a).getD i 0 * (limbs b).getD q 0 + c) 1073741824
        clear hpast hzt hzz hqc bm by' bz hz
        simp only [BB] at *; generalize (zs.getD (i + q) 0 + (limbs a).getD i 0 * (limbs b).getD q 0 + c) / 1073741824 = Q at *; generalize (zs.getD (i + q) 0 + (limbs a).getD i 0 * (limbs b).getD q 0 + c) % 1073741824 = M at *; generalize (1073741824 : Int) ^ i = I at *; generalize (1073741824 : Int) ^ q = J at *; generalize zs.getD (i + q) 0 = z at *; generalize (limbs a).getD i 0 = x at *; generalize (limbs b).getD q 0 = y at *; generalize pre (limbs b) q = pb at *; generalize val zs = vz at *; generalize val out = vo at *
        grind
    have fin : ¬ ((q : Int) < (limbs b).length) → ¬ (0 < c) → (i + 1 ≤ (limbs a).length ∧ zs.length = (limbs a).length + (limbs b).length ∧ OKL zs ∧ (∀ j, i + 1 + (limbs b).length ≤ j → zs.getD j 0 = 0) ∧ val zs = pre (limbs a) (i + 1) * b) := by
      intro g1 g2; refine ⟨by omega, hzl, hzok, fun j hj => hzz j (by omega), ?_⟩
      have hc : c = 0 := by omega
      rw [hc, Int.zero_mul, Int.add_zero, Z7 (xs := limbs b) (by omega), Xp, hv] at hzv; rw [hzv, Xa]; grind
    refine Qy (Qy (Qq fun K hK => ?_)); refine Qz Y Y Y (Qz Y Y Y (Qd Y Y sNat.und (List.length_map ..) Y (Qk ilss Y Y Y Y (Qz Y Y Y (Qc 26 Y (fun g1 => ?_) (fun g1 => ?_))))))
    · have st := step (by omega); clear step fin; refine Qw Y Y Y (Qw Y Y Y (QK Y Y Y Y (Qj (hK _ _ (Qx (Qt Y (Q0 (Qx (Qy (Q2 (Qy ?_))))))))))); clear hK K; refine XJ mixed 18 (.p 0 (.p 1 (.p 2 (.p 3 (.p 4 (.p 6 (.p 7 (.p 8 (.p 10 (.p 11 (.p 15 (.f 5 (.f 9 (.m 12 (.p 13 (.p 14 (.p 16 (.p 17 .done)))))))))))))))))) (by kernel_rfl) (fun K hK => ?_); refine Qz Y Y Y (Qz Y Y Y (Qz Y Y Y (Qk (iadd (by omega) (by omega)) Y Y Y Y ?_)))
      refine ZQ ((limbs a).length + (limbs b).length) Y Y Y (by simp [ints]; omega) Y sNat (by omega) (by omega) Y ?_
      rw [eiq]; refine Qz Y Y Y (Qz Y Y Y (Qm Y Y Y sNat (by omega) (XV (by omega) (by omega)) Y ?_)); refine Qz Y Y Y (Qz Y Y Y (Qz Y Y Y ?_)); rw [eix]
      refine QJ Y Y Y Y (ints_get (by omega)) lInt Y ?_
      refine Xx Y Y Y lInt Y (QZ gorlimb (Zi (limbs b) q) Y Y Y Y (Qk (imul (by omega) (by omega)) Y Y Y Y ?_))
      refine Qk (iadd (by omega) (by omega)) Y Y Y Y ?_
      refine Qk (iadd (by omega) (by omega)) Y Y Y Y ?_
      refine Qv Y Y Y (Qj (hK _ _ (Qx (Qy ?_)))); clear hK K; refine Qq (fun K hK => ?_); refine Qz Y Y Y (Qz Y Y Y (Qz Y Y Y (Qk (iadd (by omega) (by omega)) Y Y Y Y ?_))); refine Qz Y Y Y (Qk (irem (by omega) (by omega)) Y Y Y Y ?_)
      refine ZQ ((limbs a).length + (limbs b).length) Y Y Y (by simp [ints]; omega) Y sNat (by omega) (by omega) Y ?_
      rw [eiq]
      refine Zx Y Y Y Y Y zInt (by simp [Ent.cs, ints]; omega) ?_
      simp only [Ent.setc, ints_set]; refine Qj (hK _ _ (Qx ?_)); clear hK K; refine Qq (fun K hK => ?_); refine Qz Y Y Y (Qk (iquo (by omega) (by omega) (by omega)) Y Y Y Y ?_); refine Qv Y Y Y (Qj (hK _ _ (Qx ?_))); clear hK K; refine Qq (fun K hK => ?_); refine Qz Y Y Y (Qk (iadd (by omega) (by omega)) Y Y Y Y ?_); refine Qv Y Y Y (Qj (hK _ _ (Q4 ?_))); clear hK K; refine Q9 (q + 1, zs.set (i + q) ((zs.getD (i + q) 0 + (limbs a).getD i 0 * (limbs b).getD q 0 + c) % 1073741824), (zs.getD (i + q) 0 + (limbs a).getD i 0 * (limbs b).getD q 0 + c) / 1073741824) st.1 st.2 (by exact Qu Y ⟨rfl, rfl, rfl, rfl, rfl, by simp only [Int.natCast_add]; rfl, trivial⟩)
    · refine Qz Y Y Y (Qk igtr Y Y Y Y (Q6 Y Y Y Y (Qj (hK _ _ (Qx ?_))))); clear hK K; refine Q1 Y (fun g2 => ?_) (fun g2 => ?_)
      · have st := step (by omega); clear step fin; refine Q0 (Qx (Qy (Q2 (Qy ?_)))); refine XJ mixed 18 (.p 0 (.p 1 (.p 2 (.p 3 (.p 4 (.p 6 (.p 7 (.p 8 (.p 10 (.p 11 (.p 15 (.f 5 (.f 9 (.m 12 (.p 13 (.p 14 (.p 16 (.p 17 .done)))))))))))))))))) (by kernel_rfl) (fun K hK => ?_); refine Qz Y Y Y (Qz Y Y Y (Qz Y Y Y (Qk (iadd (by omega) (by omega)) Y Y Y Y ?_)))
        refine ZQ ((limbs a).length + (limbs b).length) Y Y Y (by simp [ints]; omega) Y sNat (by omega) (by omega) Y ?_
        rw [eiq]; refine Qz Y Y Y (Qz Y Y Y (Qm Y Y Y sNat (by omega) (XV (by omega) (by omega)) Y ?_)); refine Qz Y Y Y (Qz Y Y Y (Qz Y Y Y ?_)); rw [eix]
        refine QJ Y Y Y Y (ints_get (by omega)) lInt Y ?_
        refine Xx Y Y Y lInt Y (QZ gorlimb (Zi (limbs b) q) Y Y Y Y (Qk (imul (by omega) (by omega)) Y Y Y Y ?_))
        refine Qk (iadd (by omega) (by omega)) Y Y Y Y ?_
        refine Qk (iadd (by omega) (by omega)) Y Y Y Y ?_
        refine Qv Y Y Y (Qj (hK _ _ (Qx (Qy ?_)))); clear hK K; refine Qq (fun K hK => ?_); refine Qz Y Y Y (Qz Y Y Y (Qz Y Y Y (Qk (iadd (by omega) (by omega)) Y Y Y Y ?_))); refine Qz Y Y Y (Qk (irem (by omega) (by omega)) Y Y Y Y ?_)
        refine ZQ ((limbs a).length + (limbs b).length) Y Y Y (by simp [ints]; omega) Y sNat (by omega) (by omega) Y ?_
        rw [eiq]
        refine Zx Y Y Y Y Y zInt (by simp [Ent.cs, ints]; omega) ?_
        simp only [Ent.setc, ints_set]; refine Qj (hK _ _ (Qx ?_)); clear hK K; refine Qq (fun K hK => ?_); refine Qz Y Y Y (Qk (iquo (by omega) (by omega) (by omega)) Y Y Y Y ?_); refine Qv Y Y Y (Qj (hK _ _ (Qx ?_))); clear hK K; refine Qq (fun K hK => ?_); refine Qz Y Y Y (Qk (iadd (by omega) (by omega)) Y Y Y Y ?_); refine Qv Y Y Y (Qj (hK _ _ (Q4 ?_))); clear hK K; refine Q9 (q + 1, zs.set (i + q) ((zs.getD (i + q) 0 + (limbs a).getD i 0 * (limbs b).getD q 0 + c) % 1073741824), (zs.getD (i + q) 0 + (limbs a).getD i 0 * (limbs b).getD q 0 + c) / 1073741824) st.1 st.2 (by exact Qu Y ⟨rfl, rfl, rfl, rfl, rfl, by simp only [Int.natCast_add]; rfl, trivial⟩)
      · have fe := fin g1 g2; clear step fin; refine Qo (Qx (Qq fun K hK => ?_)); refine Qz Y Y Y (Qk (iadd (by omega) (by omega)) Y Y Y Y ?_); refine Qv Y Y Y (Qj (hK _ _ (Q4 ?_))); clear hK K; refine Q9 (i + 1, zs) (by dsimp only; omega) fe (by exact Qu Y ⟨rfl, rfl, rfl, by simp only [Int.natCast_add]; rfl, trivial⟩)
  · have hi' : i = (limbs a).length := by omega
    have e4 : trimL out = limbs (a * b) := by
      rw [Zk hok, hv, hi', Z7 (Nat.le_refl _), Xp]
      congr 1
    refine Z4 0 _ Y (Xc _ _) XW (Qo (Qx (Qy (Qq fun K hK => ?_)))); refine Qz Y Y Y (QZ gorTrim (rTrim_ok out (by omega)) Y Y Y Y ?_); rw [e4]; refine Qv Y Y Y (Qj (hK _ _ (Qx (QU ?_)))); clear hK K; refine QW [_] rfl (QQ Y QX) Y Y
theorem gorTimes : InGo Tryz.prog 135 := InGo.of Tryz.func135 (by kernel_rfl) (by kernel_rfl)
theorem uU64 : Tryz.prog.underlying 153 = some (.int .u64) := Tryz.underlying153
theorem uI64 : Tryz.prog.underlying 3 = some (.int .i64) := Tryz.underlying3
abbrev wordC (x : Int) : CT := .ex (.int .u64 x)
set_option maxHeartbeats 2000000 in
theorem rWord_ok (n : Nat) (hn : n < 18446744073709551616) : Ok Tryz.prog 99 [wordC n] (natC n) := by
  refine Ok.enter Tryz.func99 J _ Tryz.ntmps99 J ?_
  intro S w; refine Qy (Qq fun K hK => ?_); refine Qv J J J (Qj (hK _ _ (Qx (Qy ?_)))); clear hK K; refine Qq (fun K hK => ?_); refine Qv J J J (Qj (hK _ _ (Qx (Qy (Q2 ?_))))); clear hK K
  refine Xg 3 0 3 1 J J J ?_
  skip
  refine Xz (α := Nat × List Int) (fun s => s.1 ≤ n ∧ limbs n = s.2 ++ limbs s.1)
    (fun s => [(0, .ct (wordC s.1)), (3, .own 0)]) (fun s => [(0, .row 3 1 (ints s.2))]) (fun s => s.1) (n, []) ⟨Nat.le_refl _, rfl⟩ (by exact Qu J ⟨rfl, rfl, trivial⟩) ?_
  rintro ⟨m, zs⟩ ⟨hm, hv⟩
  dsimp only at hm hv ⊢
  have hl : zs.length ≤ 64 := by
    have h1 := congrArg List.length hv; have h2 := Xv (n := n) (k := 3) (by omega); simp at h1; omega
  refine Qy (Qy (Qq fun K hK => ?_)); refine Qz J J J (Qk igtr J J J J (Qj (hK _ _ (Qx ?_)))); clear hK K; refine Q1 J (fun h => ?_) (fun h => ?_)
  · refine Q0 (Qx (Qy (Q2 (Qq fun K hK => ?_)))); refine Qz J J J (Qz J J J (Qk (urem (by omega) (by omega)) J J J J ?_))
    refine Ops.conv J J uU64 uI64 (Zh (by omega) (by omega)) J ?_
    refine Zz J J sNat J J J (Xk zs.length (ints (zs ++ [(m : Int) % 1073741824])) J J J J sNat (by simp [ints]) J (by omega) (by omega) (by simp [ints]) J ?_); refine Qv J J J (Qj (hK _ _ (Qx ?_))); clear hK K; refine Qq (fun K hK => ?_); refine Qz J J J (Qk (uquo (by omega) (by omega) (by omega)) J J J J ?_); refine Qv J J J (Qj (hK _ _ (Q4 ?_))); clear hK K
    refine Q9 (m / 1073741824, zs ++ [(m : Int) % 1073741824]) (by dsimp only; omega) ⟨by dsimp only; omega, ?_⟩ ?_
    all_goals dsimp only
    · rw [hv, limbs_pos (n := m) (by omega)]; simp
    · exact Qu J ⟨by rw [Int.natCast_ediv]; rfl, rfl, trivial⟩
  · have : m = 0 := by omega
    subst this; rw [limbs_zero, List.append_nil] at hv; subst hv; refine Z4 0 _ J (Xc _ _) XW (Qo (Qx (Qy (Qq fun K hK => ?_)))); refine Qz J J J (Qv J J J (Qj (hK _ _ (Qx (QU ?_))))); clear hK K; refine QW [_] rfl (QQ J QX) J J
theorem gorWord : InGo Tryz.prog 99 := InGo.of Tryz.func99 (by kernel_rfl) (by kernel_rfl)
theorem cmpI_le {a b : Int} : cmpI a b ≤ 0 ↔ a ≤ b := by unfold cmpI; split <;> (try split) <;> omega
theorem rTimes_one (b m : Nat) (h0 : 0 < m) (h1 : m < 1073741824) (hl : (limbs b).length ≤ 100000) : Ok Tryz.prog 135 [natC b, .fr (sliceT 1 [[intC m]])] (natC (b * m)) := by
  have h := rTimes_ok b m (by rw [Zq h0 h1]; simp; omega)
  have e : natC m = .fr (sliceT 1 [[intC m]]) := by show intsC (limbs m) = _; rw [Zq h0 h1]; rfl
  rw [← e]; exact h
theorem split_step {v b r R A p x P d : Int} (K : Int) (hR : R = r * K + x) (hv : v * b + r * (P * K) = A - (p + x * P)) : (v + d * P) * b + (R - b * d) * P = A - p := by
  subst hR; grind
theorem len_lt_mul {R b k : Nat} (h : (limbs b).length ≤ k) (hR : R < b * 1073741824) : (limbs R).length ≤ k + 1 := by
  refine Xv ?_
  rw [Nat.pow_succ]; exact Nat.lt_trans hR (Nat.mul_lt_mul_of_pos_right (XU h) (by decide))
set_option maxHeartbeats 4000000 in
theorem rSplit_ok (a b : Nat) (hb : 0 < b) (la : (limbs a).length ≤ 10000) (lb : (limbs b).length ≤ 10000) : Ok Tryz.prog 98 [natC a, natC b] (.fr (tupT [natC (a / b), natC (a % b)])) := by
  refine Ok.enter Tryz.func98 J _ Tryz.ntmps98 J ?_
  intro S w; refine Qy (Qq fun K hK => ?_); refine Qv J J J (Qv J J J (Qj (hK _ _ (Qx (Qy ?_))))); clear hK K; refine Qq (fun K hK => ?_); refine Qz J J J (Qd J J sNat.und (List.length_map ..) J (Ops.make 0 (limbs a).length J J J J sNat (by omega) (by omega) J J J ?_)); rw [ints_made]; refine Qv J J J (Qj (hK _ _ (Qx (Qy ?_)))); clear hK K; refine Qq (fun K hK => ?_); refine Qv J J J (Qj (hK _ _ (Qx (Qy (Qy ?_))))); clear hK K; refine Qq (fun K hK => ?_); refine Qz J J J (Qd J J sNat.und (List.length_map ..) J (Qk (isub (by omega) (by omega)) J J J J ?_)); refine Qv J J J (Qj (hK _ _ (Qx (Q2 ?_)))); clear hK K
  refine St.asNil 7 1 J ?_
  refine Xz (α := Nat × List Int × Nat) (fun s => s.1 ≤ (limbs a).length ∧ s.2.1.length = (limbs a).length ∧ OKL s.2.1 ∧ (∀ j, j < s.1 → s.2.1.getD j 0 = 0) ∧ s.2.2 < b ∧ val s.2.1 * b + s.2.2 * BB ^ s.1 = val (limbs a) - pre (limbs a) s.1)
    (fun s => [(0, .ct (natC a)), (1, .ct (natC b)), (6, .own 0), (7, .ct (natC s.2.2)), (8, .ct (intC ((s.1 : Int) - 1)))])
    (fun s => [(0, .row 3 1 (ints s.2.1))]) (fun s => s.1) ((limbs a).length, List.replicate (limbs a).length 0, 0) ⟨Nat.le_refl _, by simp, OKL.zeros _, ?_, hb, ?_⟩ (by exact Qu J ⟨rfl, rfl, rfl, by rw [natC_zero]; rfl, rfl, trivial⟩) ?_
  · intro j _; simp [List.getD_eq_getElem?_getD, List.getElem?_replicate]; split <;> rfl
  · dsimp only; rw [val_zeros, Z7 (Nat.le_refl _)]; simp
  rintro ⟨q, zs, rr⟩ ⟨hq, hzl, hok, hz, hrb, hv⟩
  dsimp only at hq hzl hok hz hrb hv ⊢; refine Qy (Qy (Qq fun K hK => ?_)); refine Qz J J J (Qk igeq J J J J (Qj (hK _ _ (Qx ?_)))); clear hK K; refine Q1 J (fun h => ?_) (fun h => ?_)
  · obtain ⟨i, rfl⟩ : ∃ i, q = i + 1 := ⟨q - 1, by omega⟩
    have e1 : (((i + 1 : Nat) : Int) - 1) = (i : Int) := by omega
    have e2 : (i : Int).toNat = i := Int.toNat_natCast i
    have e3 : (i : Int).toNat * 1 = i := by omega
    have bx := (X2 a).get i; simp only [BB] at bx; obtain ⟨R, hR⟩ : ∃ R : Nat, (R : Int) = rr * 1073741824 + (limbs a).getD i 0 := ⟨((rr : Int) * 1073741824 + (limbs a).getD i 0).toNat, by omega⟩; have lrr : (limbs rr).length ≤ 10000 := Nat.le_trans (X1 (Nat.le_of_lt hrb)) lb
    have eT : trimL ((limbs a).getD i 0 :: limbs rr) = limbs R := by
      rw [Zk (OKL.cons (by simp only [BB]; omega) (X2 rr))]; simp only [val]; rw [Xp]; congr 1; simp only [BB]; omega
    have hRb : R < b * 1073741824 := by
      have h1 : (rr + 1) * 1073741824 ≤ b * 1073741824 := Nat.mul_le_mul_right _ (by omega); omega
    have lR : (limbs R).length ≤ 10001 := len_lt_mul lb hRb; rw [Xa, Int.pow_succ] at hv; rw [e1]; refine Q0 (Qx (Qy (Q2 (Qy (Qq fun K hK => ?_))))); refine Qz J J J (Qz J J J (Qm J J J sNat (by omega) (XV (by omega) (by omega)) J ?_))
    refine Xx J J J lInt J ?_
    rw [e2]; refine Ops.lit1E 1 J J sNat J J J J J (Qz J J J (Ops.append 1 (ints ((limbs a).getD i 0 :: limbs rr)) J J J J sNat J ?_ (by simp; omega) (by simp; omega) ?_ J ?_))
    · rw [flat_one]; exact ints_ones _
    · rw [flat_one]; rfl
    refine Xs 1 _ J (Xc _ _) XW (QZ gorTrim (rTrim_ok _ (by simp; omega)) J J J J ?_); rw [eT]; refine Qv J J J (Qj (hK _ _ (Qx (Qy (Qy ?_))))); clear hK K; refine Qq (fun K hK => ?_); refine Qz J J J (Qz J J J (QZ gorCompare (rCompare_ok R b (by omega) (by omega)) J J J J ?_)); refine Qk ilss J J J J (Qj (hK _ _ (Qx ?_))); clear hK K; refine Q1 J (fun h2 => ?_) (fun h2 => ?_)
    · rw [cmpI_neg] at h2; refine Qo (Qx (Qq fun K hK => ?_)); refine Qz J J J (Qk (isub (by omega) (by omega)) J J J J ?_); refine Qv J J J (Qj (hK _ _ (Q4 ?_))); clear hK K; refine Q9 (i, zs, R) (by dsimp only; omega) ⟨by dsimp only; omega, hzl, hok, fun j hj => hz j (by dsimp only at hj; omega), by dsimp only; omega, ?_⟩ (by exact Qu J ⟨rfl, rfl, rfl, rfl, rfl, trivial⟩); dsimp only; have := split_step (d := 0) BB hR hv
      simpa using this
    · rw [cmpI_neg] at h2; refine Q0 (Qx (Qy (Qq fun K hK => ?_))); refine Qv J J J (Qv J J J (Qj (hK _ _ (Qx (Qy (Q2 ?_)))))); clear hK K
      refine Xz (α := Nat × Nat) (fun s => 1 ≤ s.1 ∧ s.1 ≤ s.2 ∧ s.2 ≤ 1073741823 ∧ b * s.1 ≤ R ∧ R < b * (s.2 + 1))
        (fun s => [(0, .ct (natC a)), (1, .ct (natC b)), (6, .own 0), (7, .ct (natC R)), (8, .ct (intC i)), (9, .ct (intC s.1)), (10, .ct (intC s.2))])
        (fun _ => [(0, .row 3 1 (ints zs))]) (fun s => s.2 - s.1) (1, 1073741823) ⟨Nat.le_refl _, by decide, Nat.le_refl _, by omega, hRb⟩ (by exact Qu J ⟨rfl, rfl, rfl, rfl, rfl, rfl, rfl, trivial⟩) ?_
      rintro ⟨lo, hi⟩ ⟨k1, k2, k3, k4, k5⟩
      dsimp only at k1 k2 k3 k4 k5 ⊢; refine Qy (Qy (Qq fun K hK => ?_)); refine Qz J J J (Qz J J J (Qk ilss J J J J (Qj (hK _ _ (Qx ?_))))); clear hK K; refine Q1 J (fun h3 => ?_) (fun h3 => ?_)
      · obtain ⟨m, hm⟩ : ∃ m : Nat, m = (lo + hi + 1) / 2 := ⟨_, rfl⟩
        have em : ((lo : Int) + hi + 1) / 2 = (m : Int) := by omega
        have lbm : (limbs (b * m)).length ≤ 10001 := Nat.le_trans limbs_mul_len (by
          have := Xv (n := m) (k := 1) (by omega)
          omega)
        refine Q0 (Qx (Q2 (Qy (Qq fun K hK => ?_)))); refine Qz J J J (Qz J J J (Qk (iadd (by omega) (by omega)) J J J J ?_))
        refine Qk (iadd (by omega) (by omega)) J J J J ?_
        refine Qk (iquo (by omega) (by omega) (by omega)) J J J J ?_
        refine Qv J J J (Qj (hK _ _ (Qx (Qy ?_)))); clear hK K; refine Qq (fun K hK => ?_); refine Qz J J J (Qz J J J ?_); rw [em]; skip; refine Zz J J sNat J J J (QZ gorTimes (rTimes_one b m (by omega) (by omega) (by omega)) J J J J ?_); refine Qz J J J (QZ gorCompare (rCompare_ok (b * m) R (by omega) (by omega)) J J J J ?_); refine Qk ileq J J J J (Qj (hK _ _ (Qx ?_))); clear hK K; refine Q1 J (fun h4 => ?_) (fun h4 => ?_)
        · rw [cmpI_le] at h4; refine Qq (fun K hK => ?_); refine Qz J J J (Qv J J J (Qj (hK _ _ (Q3 (Q4 ?_))))); clear hK K; refine Q9 (m, hi) (by dsimp only; omega) ⟨by dsimp only; omega, by dsimp only; omega, k3, by dsimp only; omega, k5⟩ (by exact Qu J ⟨rfl, rfl, rfl, rfl, rfl, rfl, rfl, trivial⟩)
        · rw [cmpI_le] at h4; refine Qq (fun K hK => ?_); refine Qz J J J (Qk (isub (by omega) (by omega)) J J J J ?_); refine Qv J J J (Qj (hK _ _ (Q3 (Q4 ?_)))); clear hK K; refine Q9 (lo, m - 1) (by dsimp only; omega) ⟨k1, by dsimp only; omega, by dsimp only; omega, k4, ?_⟩ (by exact Qu J ⟨rfl, rfl, rfl, rfl, rfl, rfl, by rw [show ((m - 1 : Nat) : Int) = (m : Int) - 1 by omega]; rfl, trivial⟩); dsimp only; rw [show m - 1 + 1 = m by omega]; omega
      · have h6 : lo = hi := by omega
        subst h6
        have lbm : (limbs (b * lo)).length ≤ 10001 := Nat.le_trans limbs_mul_len (by
          have := Xv (n := lo) (k := 1) (by omega)
          omega)
        refine Qo (Qx (Qy (Qq fun K hK => ?_))); refine Qz J J J (Qz J J J (Qz J J J (ZQ (limbs a).length J J J (by simp [ints]; omega) J sNat (by omega) (by omega) J ?_))); rw [e3]
        refine Zx J J J J J zInt (by simp [Ent.cs, ints]; omega) ?_
        simp only [Ent.setc, ints_set]; refine Qj (hK _ _ (Qx ?_)); clear hK K; refine Qq (fun K hK => ?_); refine Qz J J J (Qz J J J (Qz J J J (Zz J J sNat J J J (QZ gorTimes (rTimes_one b lo (by omega) (by omega) (by omega)) J J J J ?_))))
        refine QZ gorLess (rLess_ok R (b * lo) k4 (by omega)) J J J J ?_
        refine Qv J J J (Qj (hK _ _ (Qx ?_))); clear hK K; refine Qq (fun K hK => ?_); refine Qz J J J (Qk (isub (by omega) (by omega)) J J J J ?_); refine Qv J J J (Qj (hK _ _ (Q4 ?_))); clear hK K; refine Q9 (i, zs.set i (lo : Int), R - b * lo) (by dsimp only; omega) ⟨by dsimp only; omega, by simp [hzl], ?_, ?_, ?_, ?_⟩ (by exact Qu J ⟨rfl, rfl, rfl, rfl, rfl, trivial⟩)
        all_goals dsimp only
        · exact hok.set _ (by simp only [BB]; omega)
        · intro j hj; rw [getD_set (by omega), if_neg (by omega)]; exact hz j (by omega)
        · rw [Nat.mul_add] at k5; omega
        · rw [val_set (by omega), hz i (by omega), Int.sub_zero, show ((R - b * lo : Nat) : Int) = (R : Int) - b * lo by rw [Int.natCast_sub k4, Int.natCast_mul]]; exact split_step BB hR hv
  · have hq0 : q = 0 := by omega
    subst hq0
    have e4 : val zs * b + rr = a := by rw [ZJ, Xp] at hv; simpa using hv
    have hvz := val_nonneg hok; obtain ⟨Q, hQ⟩ : ∃ Q : Nat, val zs = Q := ⟨(val zs).toNat, by omega⟩; rw [hQ] at e4
    have e4' : a = rr + Q * b := by
      have : ((Q * b + rr : Nat) : Int) = a := by rw [Int.natCast_add, Int.natCast_mul]; exact e4
      omega
    have e5 : a / b = Q ∧ a % b = rr := by
      rw [e4']; constructor
      · rw [Nat.add_mul_div_right _ _ hb, Nat.div_eq_of_lt hrb]; omega
      · rw [Nat.add_mul_mod_self_right, Nat.mod_eq_of_lt hrb]
    refine Z4 0 _ J (Xc _ _) XW (Qo (Qx (Qy (Qq fun K hK => ?_)))); refine Qz J J J (QZ gorTrim (rTrim_ok zs (by omega)) J J J J ?_); rw [Zk hok, hQ, Int.toNat_natCast]; refine Qz J J J (Qv J J J (Qv J J J (Qj (hK _ _ (Qx (QU ?_)))))); clear hK K; refine QW [_, _] rfl (QQ J (QQ J QX)) (by rw [e5.1, e5.2]; rfl) J
theorem gorSplit : InGo Tryz.prog 98 := InGo.of Tryz.func98 (by kernel_rfl) (by kernel_rfl)
theorem limbs_get0 {x : Nat} (h : x ≠ 0) : (limbs x).getD 0 0 = ((x % 1073741824 : Nat) : Int) := by rw [limbs_pos h]; rfl
theorem gcd_half {x y : Nat} (hx : x % 2 = 0) (hy : y % 2 = 1) : Nat.gcd (x / 2) y = Nat.gcd x y := by
  have e : x = 2 * (x / 2) := by omega
  have hc : Nat.Coprime 2 y := by
    unfold Nat.Coprime; rw [Nat.gcd_rec, hy]; rfl
  conv => rhs; rw [e]
  exact (hc.gcd_mul_left_cancel _).symm
theorem gcd_two {x y : Nat} (hx : x % 2 = 0) (hy : y % 2 = 0) : 2 * Nat.gcd (x / 2) (y / 2) = Nat.gcd x y := by
  rw [← Nat.gcd_mul_left, show 2 * (x / 2) = x by omega, show 2 * (y / 2) = y by omega]
theorem gcd_less {x y : Nat} (h : y ≤ x) : Nat.gcd (x - y) y = Nat.gcd x y := by
  conv => rhs; rw [show x = (x - y) + y by omega]
  rw [Nat.gcd_add_self_left]
theorem len_add {x y k : Nat} (h1 : x < 1073741824 ^ k) (h2 : y < 1073741824 ^ k) : (limbs (x + y)).length ≤ k + 1 := by
  refine Xv ?_
  rw [Nat.pow_succ]; omega
set_option maxHeartbeats 8000000 in
theorem rGcd_ok (a b : Nat) (la : (limbs a).length ≤ 10000) (lb : (limbs b).length ≤ 10000) : Ok Tryz.prog 97 [natC a, natC b] (natC (Nat.gcd a b)) := by
  refine Ok.enter Tryz.func97 J _ Tryz.ntmps97 J ?_
  intro S w; refine Qy (Qq fun K hK => ?_); refine Qv J J J (Qj (hK _ _ (Qx (Qy (Qy ?_))))); clear hK K; refine Qq (fun K hK => ?_); refine Qz J J J (Qd J J sNat.und (List.length_map ..) J (Qk ieql J J J J (Qz J J J ?_)))
  have early : (limbs a).length = 0 ∨ (limbs b).length = 0 → natC (Nat.gcd a b) = natC (a + b) := by
    rintro (h | h)
    · have : a = 0 := Z5 (List.eq_nil_of_length_eq_zero h); subst this; simp
    · have : b = 0 := Z5 (List.eq_nil_of_length_eq_zero h); subst this; simp
  refine Qc 9 J (fun g1 => ?_) (fun g1 => ?_)
  · have ee := early (.inl (by omega)); refine Qw J J J (Qw J J J (Qw J J J (QK J J J J (Qj (hK _ _ (Qx (Qt J (Qy ?_)))))))); clear hK K; refine Qq (fun K hK => ?_); refine Qz J J J (Qz J J J (QZ gorPlus (rPlus_ok a b (by omega) (by omega)) J J J J ?_)); refine Qv J J J (Qj (hK _ _ (Qx (QU (QV ?_))))); clear hK K; refine QW [_] rfl (QQ J QX) (by rw [ee]; rfl) J
  · refine Qz J J J (Qd J J sNat.und (List.length_map ..) J (Qk ieql J J J J (Q6 J J J J (Qj (hK _ _ (Qx ?_)))))); clear hK K; refine Q1 J (fun g2 => ?_) (fun g2 => ?_)
    · have ee := early (.inr (by omega)); refine Qy (Qq fun K hK => ?_); refine Qz J J J (Qz J J J (QZ gorPlus (rPlus_ok a b (by omega) (by omega)) J J J J ?_)); refine Qv J J J (Qj (hK _ _ (Qx (QU (QV ?_))))); clear hK K; refine QW [_] rfl (QQ J QX) (by rw [ee]; rfl) J
    · have ha0 : a ≠ 0 := limbs_len_pos.mp (by omega); have hb0 : b ≠ 0 := limbs_len_pos.mp (by omega); clear early
      have e11 : natC 1 = .fr (sliceT 1 [[intC 1]]) := by show intsC (limbs 1) = _; rw [Zq (by decide) (by decide)]; rfl
      have h00 : (0 : Int).toNat = 0 := rfl; refine Q0 (Qx (Qy (Qq fun K hK => ?_)))
      refine Zz J J sNat J J J ?_
      rw [← e11]; refine Qv J J J (Qj (hK _ _ (Qx (Qy (Q2 ?_))))); clear hK K
      refine Xz (α := Nat × Nat × Nat) (fun s => 0 < s.1 ∧ 0 < s.2.1 ∧ 0 < s.2.2 ∧ s.1 ≤ a ∧ s.2.1 ≤ b ∧ s.2.2 * s.1 ≤ a ∧ s.2.2 * Nat.gcd s.1 s.2.1 = Nat.gcd a b)
        (fun s => [(0, .ct (natC s.1)), (1, .ct (natC s.2.1)), (5, .ct (natC s.2.2))]) (fun _ => []) (fun s => s.1) (a, b, 1) ⟨by dsimp only; omega, by dsimp only; omega, Nat.one_pos, Nat.le_refl _, Nat.le_refl _, by dsimp only; omega, by dsimp only; omega⟩ (by exact Qu J ⟨rfl, rfl, rfl, trivial⟩) ?_
      rintro ⟨x, y, u⟩ ⟨hx, hy, hu, hxa, hyb, hua, hg⟩
      dsimp only at hx hy hu hxa hyb hua hg ⊢; have lx : (limbs x).length ≤ 10000 := Nat.le_trans (X1 hxa) la; have ly : (limbs y).length ≤ 10000 := Nat.le_trans (X1 hyb) lb; have lu : (limbs u).length ≤ 10000 := Nat.le_trans (X1 (Nat.le_trans (Nat.le_mul_of_pos_right u hx) hua)) la; have px := limbs_len_pos.mpr (show x ≠ 0 by omega); have py := limbs_len_pos.mpr (show y ≠ 0 by omega); have gx := limbs_get0 (show x ≠ 0 by omega); have gy := limbs_get0 (show y ≠ 0 by omega); refine Qy (Qy (Qq fun K hK => ?_)); refine Qz J J J (Qm J J J sNat (by omega) (XV (by omega) (by omega)) J ?_)
      refine Xx J J J lInt J ?_
      rw [h00, gx]
      refine Qk (irem (by omega) (by omega)) J J J J ?_
      refine Qk ieql J J J J (Qz J J J (Qc 23 J (fun g3 => ?_) (fun g3 => ?_)))
      · refine Qz J J J (Qm J J J sNat (by omega) (XV (by omega) (by omega)) J ?_)
        refine Xx J J J lInt J ?_
        rw [h00, gy]
        refine Qk (irem (by omega) (by omega)) J J J J ?_
        refine Qk ieql J J J J (QK J J J J (Qj (hK _ _ (Qx ?_)))); clear hK K; refine Q1 J (fun g4 => ?_) (fun g4 => ?_)
        · refine Q0 (Qx (Q2 (Qq fun K hK => ?_))); refine Qz J J J (QZ gorhalf (rhalf_ok x (by omega)) J J J J ?_); refine Qz J J J (QZ gorhalf (rhalf_ok y (by omega)) J J J J ?_); refine Qz J J J (Qz J J J (QZ gorPlus (rPlus_ok u u (by omega) (by omega)) J J J J ?_)); refine Qv J J J (Qv J J J (Qv J J J (Qj (hK _ _ (Q3 (Q4 ?_)))))); clear hK K; have q1 := gcd_two (x := x) (y := y) (by omega) (by omega); refine Q9 (x / 2, y / 2, u + u) (by dsimp only; omega) ⟨by dsimp only; omega, by dsimp only; omega, by dsimp only; omega, by dsimp only; omega, by dsimp only; omega, ?_, ?_⟩ (by exact Qu J ⟨rfl, rfl, rfl, trivial⟩)
          · dsimp only; rw [← Nat.two_mul, Nat.mul_comm 2 u, Nat.mul_assoc, show 2 * (x / 2) = x by omega]; exact hua
          · dsimp only; rw [← Nat.two_mul, Nat.mul_comm 2 u, Nat.mul_assoc, q1]; exact hg
        · have hodd : x % 2 = 1 ∨ y % 2 = 1 := by omega
          clear g3 g4 gx gy; refine Qo (Qx (Qy (Q2 ?_)))
          refine Xz (α := Nat × Nat) (fun s => s.1 ≤ a ∧ s.2 ≤ b ∧ (s.1 % 2 = 1 ∨ s.2 % 2 = 1) ∧ u * Nat.gcd s.1 s.2 = Nat.gcd a b)
            (fun s => [(0, .ct (natC s.1)), (1, .ct (natC s.2)), (5, .ct (natC u))]) (fun _ => []) (fun s => s.1 + s.2) (x, y) ⟨hxa, hyb, hodd, hg⟩ (by exact Qu J ⟨rfl, rfl, rfl, trivial⟩) ?_
          clear hodd hg hxa hyb hua px py lx ly hx hy
          rintro ⟨p, q⟩ ⟨hpa, hqb, hodd, hg⟩
          dsimp only at hpa hqb hodd hg ⊢; have lp : (limbs p).length ≤ 10000 := Nat.le_trans (X1 hpa) la; have lq : (limbs q).length ≤ 10000 := Nat.le_trans (X1 hqb) lb
          have done : p = 0 ∨ q = 0 → natC (Nat.gcd a b) = natC (u * (p + q)) := by
            rintro (h | h)
            · subst h; rw [← hg]; simp
            · subst h; rw [← hg]; simp
          have lpq : (limbs (p + q)).length ≤ 10001 := by
            have h1 := XU lp; have h2 := XU lq; exact len_add h1 h2
          refine Qy (Qy (Qq fun K hK => ?_)); refine Qz J J J (Qd J J sNat.und (List.length_map ..) J (Qk igtr J J J J (Qz J J J (Qc 40 J (fun g5 => ?_) (fun g5 => ?_)))))
          · refine Qz J J J (Qd J J sNat.und (List.length_map ..) J (Qk igtr J J J J (QK J J J J (Qj (hK _ _ (Qx ?_)))))); clear hK K; refine Q1 J (fun g6 => ?_) (fun g6 => ?_)
            · have hp0 : p ≠ 0 := limbs_len_pos.mp (by omega); have hq0 : q ≠ 0 := limbs_len_pos.mp (by omega); have gp := limbs_get0 hp0; have gq := limbs_get0 hq0; clear done; refine Q0 (Qx (Q2 (Q2 (Qy (Qq fun K hK => ?_))))); refine Qz J J J (Qm J J J sNat (by omega) (XV (by omega) (by omega)) J ?_)
              refine Xx J J J lInt J ?_
              rw [h00, gp]
              refine Qk (irem (by omega) (by omega)) J J J J ?_
              refine Qk ieql J J J J (Qv J J J (Qj (hK _ _ (Qx ?_)))); clear hK K; refine Q1 J (fun g7 => ?_) (fun g7 => ?_)
              · have q1 := gcd_half (x := p) (y := q) (by omega) (by omega); refine Qq (fun K hK => ?_); refine Qz J J J (QZ gorhalf (rhalf_ok p (by omega)) J J J J ?_); refine Qv J J J (Qj (hK _ _ (Q3 (Q3 (Q4 ?_))))); clear hK K; refine Q9 (p / 2, q) (by dsimp only; omega) ⟨by dsimp only; omega, hqb, by dsimp only; omega, by dsimp only; rw [q1]; exact hg⟩ (by exact Qu J ⟨rfl, rfl, rfl, trivial⟩)
              · refine Qy (Qq fun K hK => ?_); refine Qz J J J (Qm J J J sNat (by omega) (XV (by omega) (by omega)) J ?_)
                refine Xx J J J lInt J ?_
                rw [h00, gq]
                refine Qk (irem (by omega) (by omega)) J J J J ?_
                refine Qk ieql J J J J (Qv J J J (Qj (hK _ _ (Qx ?_)))); clear hK K; refine Q1 J (fun g8 => ?_) (fun g8 => ?_)
                · have q1 := gcd_half (x := q) (y := p) (by omega) (by omega); refine Qq (fun K hK => ?_); refine Qz J J J (QZ gorhalf (rhalf_ok q (by omega)) J J J J ?_); refine Qv J J J (Qj (hK _ _ (Q3 (Q3 (Q4 ?_))))); clear hK K; refine Q9 (p, q / 2) (by dsimp only; omega) ⟨hpa, by dsimp only; omega, by dsimp only; omega, by dsimp only; rw [Nat.gcd_comm, q1, Nat.gcd_comm]; exact hg⟩ (by exact Qu J ⟨rfl, rfl, rfl, trivial⟩)
                · refine Qy (Qq fun K hK => ?_); refine Qz J J J (Qz J J J (QZ gorCompare (rCompare_ok p q (by omega) (by omega)) J J J J ?_)); refine Qk igeq J J J J (Qv J J J (Qj (hK _ _ (Qx ?_)))); clear hK K; refine Q1 J (fun g9 => ?_) (fun g9 => ?_)
                  · have hle : q ≤ p := by have := cmpI_neg (a := p) (b := q); omega
                    have q1 := gcd_less hle; refine Qq (fun K hK => ?_); refine Qz J J J (Qz J J J (QZ gorLess (rLess_ok p q hle (by omega)) J J J J ?_)); refine Qv J J J (Qj (hK _ _ (Q3 (Q3 (Q4 ?_))))); clear hK K; refine Q9 (p - q, q) (by dsimp only; omega) ⟨by dsimp only; omega, hqb, by dsimp only; omega, by dsimp only; rw [q1]; exact hg⟩ (by exact Qu J ⟨rfl, rfl, rfl, trivial⟩)
                  · have hle : p ≤ q := by have := cmpI_neg (a := p) (b := q); omega
                    have q1 := gcd_less hle; refine Qq (fun K hK => ?_); refine Qz J J J (Qz J J J (QZ gorLess (rLess_ok q p hle (by omega)) J J J J ?_)); refine Qv J J J (Qj (hK _ _ (Q3 (Q3 (Q4 ?_))))); clear hK K; refine Q9 (p, q - p) (by dsimp only; omega) ⟨hpa, by dsimp only; omega, by dsimp only; omega, by dsimp only; rw [Nat.gcd_comm, q1, Nat.gcd_comm]; exact hg⟩ (by exact Qu J ⟨rfl, rfl, rfl, trivial⟩)
            · have hd := done (.inr (Z5 (List.eq_nil_of_length_eq_zero (by omega)))); refine Qo (Qx (Qy (Qq fun K hK => ?_))); refine Qz J J J (Qz J J J (Qz J J J (QZ gorPlus (rPlus_ok p q (by omega) (by omega)) J J J J ?_)))
              refine QZ gorTimes (rTimes_ok u (p + q) (by omega)) J J J J ?_
              refine Qv J J J (Qj (hK _ _ (Qx (QU ?_)))); clear hK K; refine QW [_] rfl (QQ J QX) (by rw [hd]; rfl) J
          · have hd := done (.inl (Z5 (List.eq_nil_of_length_eq_zero (by omega)))); refine Qw J J J (Qw J J J (Qw J J J (Q6 J J J J (Qj (hK _ _ (Qx (Xy J (Qo (Qx (Qy ?_)))))))))); clear hK K; refine Qq (fun K hK => ?_); refine Qz J J J (Qz J J J (Qz J J J (QZ gorPlus (rPlus_ok p q (by omega) (by omega)) J J J J ?_)))
            refine QZ gorTimes (rTimes_ok u (p + q) (by omega)) J J J J ?_
            refine Qv J J J (Qj (hK _ _ (Qx (QU ?_)))); clear hK K; refine QW [_] rfl (QQ J QX) (by rw [hd]; rfl) J
      · have hodd : x % 2 = 1 ∨ y % 2 = 1 := by omega
        clear g3 gx gy; refine Qw J J J (Qw J J J (Qw J J J (Qw J J J (Qw J J J (Q6 J J J J (Qj (hK _ _ (Qx (Xy J (Qo (Qx (Qy (Q2 ?_))))))))))))); clear hK K
        refine Xz (α := Nat × Nat) (fun s => s.1 ≤ a ∧ s.2 ≤ b ∧ (s.1 % 2 = 1 ∨ s.2 % 2 = 1) ∧ u * Nat.gcd s.1 s.2 = Nat.gcd a b)
          (fun s => [(0, .ct (natC s.1)), (1, .ct (natC s.2)), (5, .ct (natC u))]) (fun _ => []) (fun s => s.1 + s.2) (x, y) ⟨hxa, hyb, hodd, hg⟩ (by exact Qu J ⟨rfl, rfl, rfl, trivial⟩) ?_
        clear hodd hg hxa hyb hua px py lx ly hx hy
        rintro ⟨p, q⟩ ⟨hpa, hqb, hodd, hg⟩
        dsimp only at hpa hqb hodd hg ⊢; have lp : (limbs p).length ≤ 10000 := Nat.le_trans (X1 hpa) la; have lq : (limbs q).length ≤ 10000 := Nat.le_trans (X1 hqb) lb
        have done : p = 0 ∨ q = 0 → natC (Nat.gcd a b) = natC (u * (p + q)) := by
          rintro (h | h)
          · subst h; rw [← hg]; simp
          · subst h; rw [← hg]; simp
        have lpq : (limbs (p + q)).length ≤ 10001 := by
          have h1 := XU lp; have h2 := XU lq; exact len_add h1 h2
        refine Qy (Qy (Qq fun K hK => ?_)); refine Qz J J J (Qd J J sNat.und (List.length_map ..) J (Qk igtr J J J J (Qz J J J (Qc 40 J (fun g5 => ?_) (fun g5 => ?_)))))
        · refine Qz J J J (Qd J J sNat.und (List.length_map ..) J (Qk igtr J J J J (QK J J J J (Qj (hK _ _ (Qx ?_)))))); clear hK K; refine Q1 J (fun g6 => ?_) (fun g6 => ?_)
          · have hp0 : p ≠ 0 := limbs_len_pos.mp (by omega); have hq0 : q ≠ 0 := limbs_len_pos.mp (by omega); have gp := limbs_get0 hp0; have gq := limbs_get0 hq0; clear done; refine Q0 (Qx (Q2 (Q2 (Qy (Qq fun K hK => ?_))))); refine Qz J J J (Qm J J J sNat (by omega) (XV (by omega) (by omega)) J ?_)
            refine Xx J J J lInt J ?_
            rw [h00, gp]
            refine Qk (irem (by omega) (by omega)) J J J J ?_
            refine Qk ieql J J J J (Qv J J J (Qj (hK _ _ (Qx ?_)))); clear hK K; refine Q1 J (fun g7 => ?_) (fun g7 => ?_)
            · have q1 := gcd_half (x := p) (y := q) (by omega) (by omega); refine Qq (fun K hK => ?_); refine Qz J J J (QZ gorhalf (rhalf_ok p (by omega)) J J J J ?_); refine Qv J J J (Qj (hK _ _ (Q3 (Q3 (Q4 ?_))))); clear hK K; refine Q9 (p / 2, q) (by dsimp only; omega) ⟨by dsimp only; omega, hqb, by dsimp only; omega, by dsimp only; rw [q1]; exact hg⟩ (by exact Qu J ⟨rfl, rfl, rfl, trivial⟩)
            · refine Qy (Qq fun K hK => ?_); refine Qz J J J (Qm J J J sNat (by omega) (XV (by omega) (by omega)) J ?_)
              refine Xx J J J lInt J ?_
              rw [h00, gq]
              refine Qk (irem (by omega) (by omega)) J J J J ?_
              refine Qk ieql J J J J (Qv J J J (Qj (hK _ _ (Qx ?_)))); clear hK K; refine Q1 J (fun g8 => ?_) (fun g8 => ?_)
              · have q1 := gcd_half (x := q) (y := p) (by omega) (by omega); refine Qq (fun K hK => ?_); refine Qz J J J (QZ gorhalf (rhalf_ok q (by omega)) J J J J ?_); refine Qv J J J (Qj (hK _ _ (Q3 (Q3 (Q4 ?_))))); clear hK K; refine Q9 (p, q / 2) (by dsimp only; omega) ⟨hpa, by dsimp only; omega, by dsimp only; omega, by dsimp only; rw [Nat.gcd_comm, q1, Nat.gcd_comm]; exact hg⟩ (by exact Qu J ⟨rfl, rfl, rfl, trivial⟩)
              · refine Qy (Qq fun K hK => ?_); refine Qz J J J (Qz J J J (QZ gorCompare (rCompare_ok p q (by omega) (by omega)) J J J J ?_)); refine Qk igeq J J J J (Qv J J J (Qj (hK _ _ (Qx ?_)))); clear hK K; refine Q1 J (fun g9 => ?_) (fun g9 => ?_)
                · have hle : q ≤ p := by have := cmpI_neg (a := p) (b := q); omega
                  have q1 := gcd_less hle; refine Qq (fun K hK => ?_); refine Qz J J J (Qz J J J (QZ gorLess (rLess_ok p q hle (by omega)) J J J J ?_)); refine Qv J J J (Qj (hK _ _ (Q3 (Q3 (Q4 ?_))))); clear hK K; refine Q9 (p - q, q) (by dsimp only; omega) ⟨by dsimp only; omega, hqb, by dsimp only; omega, by dsimp only; rw [q1]; exact hg⟩ (by exact Qu J ⟨rfl, rfl, rfl, trivial⟩)
                · have hle : p ≤ q := by have := cmpI_neg (a := p) (b := q); omega
                  have q1 := gcd_less hle; refine Qq (fun K hK => ?_); refine Qz J J J (Qz J J J (QZ gorLess (rLess_ok q p hle (by omega)) J J J J ?_)); refine Qv J J J (Qj (hK _ _ (Q3 (Q3 (Q4 ?_))))); clear hK K; refine Q9 (p, q - p) (by dsimp only; omega) ⟨hpa, by dsimp only; omega, by dsimp only; omega, by dsimp only; rw [Nat.gcd_comm, q1, Nat.gcd_comm]; exact hg⟩ (by exact Qu J ⟨rfl, rfl, rfl, trivial⟩)
          · have hd := done (.inr (Z5 (List.eq_nil_of_length_eq_zero (by omega)))); refine Qo (Qx (Qy (Qq fun K hK => ?_))); refine Qz J J J (Qz J J J (Qz J J J (QZ gorPlus (rPlus_ok p q (by omega) (by omega)) J J J J ?_)))
            refine QZ gorTimes (rTimes_ok u (p + q) (by omega)) J J J J ?_
            refine Qv J J J (Qj (hK _ _ (Qx (QU ?_)))); clear hK K; refine QW [_] rfl (QQ J QX) (by rw [hd]; rfl) J
        · have hd := done (.inl (Z5 (List.eq_nil_of_length_eq_zero (by omega)))); refine Qw J J J (Qw J J J (Qw J J J (Q6 J J J J (Qj (hK _ _ (Qx (Xy J (Qo (Qx (Qy ?_)))))))))); clear hK K; refine Qq (fun K hK => ?_); refine Qz J J J (Qz J J J (Qz J J J (QZ gorPlus (rPlus_ok p q (by omega) (by omega)) J J J J ?_)))
          refine QZ gorTimes (rTimes_ok u (p + q) (by omega)) J J J J ?_
          refine Qv J J J (Qj (hK _ _ (Qx (QU ?_)))); clear hK K; refine QW [_] rfl (QQ J QX) (by rw [hd]; rfl) J
theorem gorGcd : InGo Tryz.prog 97 := InGo.of Tryz.func97 (by kernel_rfl) (by kernel_rfl)
theorem rmagnitude_ok (n : Int) (h1 : -9223372036854775808 ≤ n) (h2 : n ≤ 9223372036854775807) : Ok Tryz.prog 53 [intC n] (natC n.natAbs) := by
  refine Ok.enter Tryz.func53 rfl _ Tryz.ntmps53 rfl ?_
  intro S w
  (refine Qy (Qq fun K hK => ?_); refine Qv rfl rfl rfl ?_; refine Qj (hK _ _ (Qx (Qy (Qy ?_)))); clear hK K; refine Qq (fun K hK => ?_); refine Qz rfl rfl rfl ?_; refine Qk ilss rfl rfl rfl rfl ?_; refine Qj (hK _ _ (Qx ?_)); clear hK K)
  refine Q1 rfl (fun h => ?_) (fun h => ?_)
  · (refine Qy (Qq fun K hK => ?_); refine Qz rfl rfl rfl ?_; refine Qk (iadd (by omega) (by omega)) rfl rfl rfl rfl ?_)
    refine Ops.ineg rfl rfl (by omega) (by omega) rfl ?_
    refine Ops.conv rfl rfl (by with_reducible exact uI64) (by with_reducible exact uU64) (wrap_u (by omega) (by omega)) rfl ?_
    refine Qk (uadd (by omega) (by omega)) rfl rfl rfl rfl ?_
    rw [show -(n + 1) + 1 = (n.natAbs : Int) by omega]
    refine QZ gorWord (rWord_ok n.natAbs (by omega)) rfl rfl rfl rfl ?_
    (refine Qv rfl rfl rfl ?_; refine Qj (hK _ _ (Qx (QU (QV ?_)))); clear hK K)
    refine QW [_] rfl (QQ rfl QX) rfl rfl
  · (refine Q0 (Qx (Qy (Qq fun K hK => ?_))); refine Qz rfl rfl rfl ?_)
    refine Ops.conv rfl rfl (by with_reducible exact uI64) (by with_reducible exact uU64) (wrap_u (by omega) (by omega)) rfl ?_
    rw [show n = (n.natAbs : Int) by omega]
    refine QZ gorWord (rWord_ok n.natAbs (by omega)) rfl rfl rfl rfl ?_
    (refine Qv rfl rfl rfl ?_; refine Qj (hK _ _ (Qx (QU ?_))); clear hK K)
    refine QW [_] rfl (QQ rfl QX) rfl rfl
theorem gormagnitude : InGo Tryz.prog 53 := InGo.of Tryz.func53 (by kernel_rfl) (by kernel_rfl)
set_option maxHeartbeats 2000000 in
theorem rreduced_ok (neg : Bool) (a b : Nat) (h0 : 0 < b) (la : (limbs a).length ≤ 10000) (lb : (limbs b).length ≤ 10000) : Ok Tryz.prog 52 [boolC neg, natC a, natC b] (fracC (redF neg a b)) := by
  have hg0 : 0 < Nat.gcd a b := Nat.gcd_pos_of_pos_right _ h0
  have hg1 : Nat.gcd a b ≤ b := Nat.gcd_le_right _ h0
  have lg : (limbs (Nat.gcd a b)).length ≤ 10000 := Nat.le_trans (X1 hg1) lb
  have h1 := rGcd_ok a b la lb
  have h2 := rSplit_ok a _ hg0 la lg
  have h3 := rSplit_ok b _ hg0 lb lg
  have e0 : a ≠ 0 → redF neg a b = ⟨neg, a / Nat.gcd a b, b / Nat.gcd a b⟩ := fun ha => by
    unfold redF
    have : a / Nat.gcd a b ≠ 0 := by
      have := Nat.div_pos (Nat.gcd_le_left b (Nat.pos_of_ne_zero ha)) hg0
      omega
    simp [this]
  have e1 : a = 0 → redF neg a b = ⟨false, 0, 1⟩ := fun ha => by
    subst ha; unfold redF; simp [Nat.div_self h0]
  have e11 : natC 1 = .fr (sliceT 1 [[intC 1]]) := by show intsC (limbs 1) = _; rw [Zq (by decide) (by decide)]; rfl
  generalize Nat.gcd a b = g at *
  refine Ok.enter Tryz.func52 rfl _ Tryz.ntmps52 rfl ?_
  intro S w
  (refine Qy (Qq fun K hK => ?_); refine Qi 0 rfl rfl (by with_reducible exact zvFrac) rfl rfl rfl ?_; refine Qj (hK _ _ (Qx (Qy (Qy ?_)))); clear hK K; refine Qq (fun K hK => ?_); refine Qz rfl rfl rfl ?_; refine Qd rfl rfl (by with_reducible exact sNat.und) (List.length_map ..) rfl ?_; refine Qk ieql rfl rfl rfl rfl ?_; refine Qj (hK _ _ (Qx ?_)); clear hK K)
  refine Q1 rfl (fun h => ?_) (fun h => ?_)
  · have ha : a = 0 := Z5 (List.eq_nil_of_length_eq_zero (by omega))
    have e2 := e1 ha
    (refine Qy (Qq fun K hK => ?_))
    refine Zz rfl rfl (by with_reducible exact sNat) rfl rfl rfl ?_
    rw [← e11]
    refine Qn rfl (by with_reducible exact bFrac) rfl (.one rfl rfl rfl rfl .nil) rfl ?_
    (refine Qb 3 rfl rfl rfl rfl rfl (by with_reducible exact szFrac) rfl rfl ?_; refine Qj (hK _ _ (Qx (QU (QV ?_)))); clear hK K)
    refine QW [_] rfl (XY (w_agg (ds := [boolC false, intsC [], natC 1]) (by exact ⟨w_same, ZV, w_same, trivial⟩)) (Qg (n := 3) rfl rfl (by with_reducible exact ZU) rfl QX)) (by rw [e2, ← natC_zero]; rfl) rfl
  · have ha : a ≠ 0 := fun ha => h (by rw [ha, limbs_zero]; rfl)
    have e2 := e0 ha
    (refine Q0 (Qx (Qy (Qq fun K hK => ?_))); refine Qz rfl rfl rfl ?_; refine Qz rfl rfl rfl ?_)
    refine QZ gorGcd h1 rfl rfl rfl rfl ?_
    (refine Qv rfl rfl rfl ?_; refine Qj (hK _ _ (Qx (Qy ?_))); clear hK K; refine Qq (fun K hK => ?_); refine Qz rfl rfl rfl ?_; refine Qz rfl rfl rfl ?_)
    refine QZ gorSplit h2 rfl rfl rfl rfl ?_
    (refine Qz rfl rfl rfl ?_; refine Qa rfl rfl rfl rfl ?_; refine Qa rfl rfl rfl rfl ?_; refine Qv rfl rfl rfl ?_; refine Qv rfl rfl rfl ?_; refine Qj (hK _ _ (Qx (Qy ?_))); clear hK K; refine Qq (fun K hK => ?_); refine Qz rfl rfl rfl ?_; refine Qz rfl rfl rfl ?_)
    refine QZ gorSplit h3 rfl rfl rfl rfl ?_
    (refine Qz rfl rfl rfl ?_; refine Qa rfl rfl rfl rfl ?_; refine Qa rfl rfl rfl rfl ?_; refine Qv rfl rfl rfl ?_; refine Qv rfl rfl rfl ?_; refine Qj (hK _ _ (Qx (Qy ?_))); clear hK K; refine Qq (fun K hK => ?_); refine Qz rfl rfl rfl ?_; refine Qz rfl rfl rfl ?_; refine Qz rfl rfl rfl ?_)
    refine Qn rfl (by with_reducible exact bFrac) rfl (.one rfl rfl rfl rfl (.one rfl rfl rfl rfl (.one rfl rfl rfl rfl .nil))) rfl ?_
    (refine Qb 3 rfl rfl rfl rfl rfl (by with_reducible exact szFrac) rfl rfl ?_; refine Qj (hK _ _ (Qx (QU ?_))); clear hK K)
    refine QW [_] rfl (Qg (n := 3) rfl rfl (by with_reducible exact ZU) rfl QX) (by rw [e2]; rfl) rfl
theorem gorreduced : InGo Tryz.prog 52 := InGo.of Tryz.func52 (by kernel_rfl) (by kernel_rfl)
set_option maxHeartbeats 2000000 in
theorem rFrom_ok (n d : Int) (h1 : -9223372036854775808 ≤ n) (h2 : n ≤ 9223372036854775807) (h3 : -9223372036854775808 ≤ d) (h4 : d ≤ 9223372036854775807) (h0 : d ≠ 0) : Ok Tryz.prog 18 [intC n, intC d] (.fr (tupT [ratC (Rat.divInt n d), intC 0])) := by
  have hl : (limbs n.natAbs).length ≤ 3 := Xv (k := 3) (by omega); have hl2 : (limbs d.natAbs).length ≤ 3 := Xv (k := 3) (by omega); rw [show ratC (Rat.divInt n d) = fracC (redF (decide (n < 0) != decide (d < 0)) n.natAbs d.natAbs) from by rw [from_redF n d h0]]
  refine Ok.enter Tryz.func18 J _ Tryz.ntmps18 J ?_
  intro S w; refine Qy (Qq fun K hK => ?_); refine Qi 0 J J zvFrac J J J (Qv J J J (Qj (hK _ _ (Qx (Qy (Qy ?_)))))); clear hK K; refine Qq (fun K hK => ?_); refine Qz J J J (Qk ieql J J J J (Qj (hK _ _ (Qx ?_)))); clear hK K; refine Q1 J (fun h => absurd h h0) (fun h => ?_); refine Q0 (Qx (Qy (Qq fun K hK => ?_))); refine Qz J J J (Qk ilss J J J J (Qz J J J (Qk ilss J J J J (Ops.bne J J J uBool J ?_)))); rw [dne]; refine Qz J J J (QZ gormagnitude (rmagnitude_ok n h1 h2) J J J J (Qz J J J (QZ gormagnitude (rmagnitude_ok d h3 h4) J J J J (QZ gorreduced (rreduced_ok _ n.natAbs d.natAbs (by omega) (by omega) (by omega)) J J J J ?_)))); refine Qb 3 J J J J J szFrac J J (Qv J J J (Qj (hK _ _ (Qx (QU ?_))))); clear hK K; refine QW [_, _] rfl (Qg (n := 3) J J ZU J (QQ J QX)) J J
theorem gorFrom : InGo Tryz.prog 18 := InGo.of Tryz.func18 (by kernel_rfl) (by kernel_rfl)
def oppF (f : Fr) : Fr := ⟨!f.neg && decide (f.num ≠ 0), f.num, f.den⟩
attribute [local irreducible] OkB OkN wpA
def eqFr (f g : Fr) : Bool := decide (f.neg = g.neg ∧ limbs f.num = limbs g.num ∧ limbs f.den = limbs g.den)
theorem eqFr_self (f : Fr) : eqFr f f = true := decide_eq_true ⟨rfl, rfl, rfl⟩
theorem ext_getD {xs ys : List Int} (hl : xs.length = ys.length) (h : ∀ j, j < xs.length → xs.getD j 0 = ys.getD j 0) : xs = ys := by
  refine List.ext_getElem hl fun j h1 h2 => ?_
  have := h j h1
  simpa [List.getD_eq_getElem?_getD, List.getElem?_eq_getElem h1, List.getElem?_eq_getElem h2] using this
theorem goEqual : InGo Tryz.prog 34 := InGo.of Tryz.func34 rfl (by decide)
set_option maxHeartbeats 4000000 in
theorem Equal_ok (f g : Fr) (hn : (limbs f.num).length ≤ 1000) (hd : (limbs f.den).length ≤ 1000) (hn2 : (limbs g.num).length ≤ 1000) (hd2 : (limbs g.den).length ≤ 1000) : Ok Tryz.prog 34 [fracC f, fracC g] (boolC (eqFr f g)) := by
  have no1 : f.neg ≠ g.neg → eqFr f g = false := fun h => decide_eq_false fun e => h e.1
  have no2 : limbs f.num ≠ limbs g.num → eqFr f g = false := fun h => decide_eq_false fun e => h e.2.1
  have no3 : limbs f.den ≠ limbs g.den → eqFr f g = false := fun h => decide_eq_false fun e => h e.2.2
  have yes : f.neg = g.neg → limbs f.num = limbs g.num → limbs f.den = limbs g.den → eqFr f g = true := fun h1 h2 h3 => decide_eq_true ⟨h1, h2, h3⟩
  generalize eqFr f g = e at no1 no2 no3 yes ⊢
  refine Ok.enter Tryz.func34 rfl _ Tryz.ntmps34 rfl ?_
  intro S w
  (refine Qy (Qq fun K hK => ?_); refine XQ 0 rfl rfl rfl rfl rfl rfl rfl ?_; refine XQ 1 rfl rfl rfl rfl rfl rfl rfl ?_; refine Qv rfl rfl rfl ?_; refine Qj (hK _ _ (Qx (Qy (Qy ?_)))); clear hK K; refine Qq (fun K hK => ?_); refine QY rfl rfl rfl (by with_reducible first | exact fF0 | exact fF1 | exact fF2 | exact fR0 | exact fR1) rfl ?_; refine QJ rfl rfl rfl rfl rfl (by with_reducible first | exact lInt | exact lNat | exact lBool | exact lInts) rfl ?_; refine QY rfl rfl rfl (by with_reducible first | exact fF0 | exact fF1 | exact fF2 | exact fR0 | exact fR1) rfl ?_; refine QJ rfl rfl rfl rfl rfl (by with_reducible first | exact lInt | exact lNat | exact lBool | exact lInts) rfl ?_)
  refine Ops.bne rfl rfl rfl (by with_reducible exact uBool) rfl ?_
  (refine Qz rfl rfl rfl ?_)
  refine Qc 12 rfl (fun h1 => ?_) (fun h1 => ?_)
  · (refine Qw rfl rfl rfl ?_; refine Qw rfl rfl rfl ?_; refine Qw rfl rfl rfl ?_; refine Qw rfl rfl rfl ?_; refine Qw rfl rfl rfl ?_; refine Qw rfl rfl rfl ?_; refine Qw rfl rfl rfl ?_; refine QK rfl rfl rfl rfl ?_; refine Qz rfl rfl rfl ?_; refine Qw rfl rfl rfl ?_; refine Qw rfl rfl rfl ?_; refine Qw rfl rfl rfl ?_; refine Qw rfl rfl rfl ?_; refine Qw rfl rfl rfl ?_; refine Qw rfl rfl rfl ?_; refine Qw rfl rfl rfl ?_; refine QK rfl rfl rfl rfl ?_; refine Qj (hK _ _ (Qx (Qt rfl (Qy ?_)))); clear hK K; refine Qq (fun K hK => ?_); refine Qv rfl rfl rfl ?_; refine Qj (hK _ _ (Qx (QU (QV ?_)))); clear hK K)
    refine QW [_] rfl (QQ rfl QX) (by rw [no1 h1]; rfl) rfl
  have h1 : f.neg = g.neg := Decidable.byContradiction h1
  (refine QY rfl rfl rfl (by with_reducible first | exact fF0 | exact fF1 | exact fF2 | exact fR0 | exact fR1) rfl ?_; refine QJ rfl rfl rfl rfl rfl (by with_reducible first | exact lInt | exact lNat | exact lBool | exact lInts) rfl ?_; refine Qd rfl rfl (by with_reducible first | exact sNat.und | exact sInts.und) (List.length_map ..) rfl ?_; refine QY rfl rfl rfl (by with_reducible first | exact fF0 | exact fF1 | exact fF2 | exact fR0 | exact fR1) rfl ?_; refine QJ rfl rfl rfl rfl rfl (by with_reducible first | exact lInt | exact lNat | exact lBool | exact lInts) rfl ?_; refine Qd rfl rfl (by with_reducible first | exact sNat.und | exact sInts.und) (List.length_map ..) rfl ?_; refine Qk ineq rfl rfl rfl rfl ?_; refine Q6 rfl rfl rfl rfl ?_; refine Qz rfl rfl rfl ?_)
  refine Qc 21 rfl (fun h2 => ?_) (fun h2 => ?_)
  · (refine Qw rfl rfl rfl ?_; refine Qw rfl rfl rfl ?_; refine Qw rfl rfl rfl ?_; refine Qw rfl rfl rfl ?_; refine Qw rfl rfl rfl ?_; refine Qw rfl rfl rfl ?_; refine Qw rfl rfl rfl ?_; refine QK rfl rfl rfl rfl ?_; refine Qj (hK _ _ (Qx (Qt rfl (Qy ?_)))); clear hK K; refine Qq (fun K hK => ?_); refine Qv rfl rfl rfl ?_; refine Qj (hK _ _ (Qx (QU (QV ?_)))); clear hK K)
    refine QW [_] rfl (QQ rfl QX) (by rw [no2 (fun h => h2 (by rw [h]))]; rfl) rfl
  have h2 : (limbs f.num).length = (limbs g.num).length := by
    have := Decidable.byContradiction h2
    omega
  (refine QY rfl rfl rfl (by with_reducible first | exact fF0 | exact fF1 | exact fF2 | exact fR0 | exact fR1) rfl ?_; refine QJ rfl rfl rfl rfl rfl (by with_reducible first | exact lInt | exact lNat | exact lBool | exact lInts) rfl ?_; refine Qd rfl rfl (by with_reducible first | exact sNat.und | exact sInts.und) (List.length_map ..) rfl ?_; refine QY rfl rfl rfl (by with_reducible first | exact fF0 | exact fF1 | exact fF2 | exact fR0 | exact fR1) rfl ?_; refine QJ rfl rfl rfl rfl rfl (by with_reducible first | exact lInt | exact lNat | exact lBool | exact lInts) rfl ?_; refine Qd rfl rfl (by with_reducible first | exact sNat.und | exact sInts.und) (List.length_map ..) rfl ?_; refine Qk ineq rfl rfl rfl rfl ?_; refine Q6 rfl rfl rfl rfl ?_; refine Qj (hK _ _ (Qx ?_)); clear hK K)
  refine Q1 rfl (fun h3 => ?_) (fun h3 => ?_)
  · (refine Qy (Qq fun K hK => ?_); refine Qv rfl rfl rfl ?_; refine Qj (hK _ _ (Qx (QU (QV ?_)))); clear hK K)
    refine QW [_] rfl (QQ rfl QX) (by rw [no3 (fun h => h3 (by rw [h]))]; rfl) rfl
  have h3 : (limbs f.den).length = (limbs g.den).length := by
    have := Decidable.byContradiction h3
    omega
  (refine Q0 (Qx (Qy (Qy (Qq fun K hK => ?_)))); refine Qv rfl rfl rfl ?_; refine Qj (hK _ _ (Qx (Q2 ?_))); clear hK K)
  refine Xz (α := Nat) (fun k => k ≤ (limbs f.num).length ∧ ∀ j, j < k → (limbs f.num).getD j 0 = (limbs g.num).getD j 0)
    (fun k => [(2, .own 0), (3, .own 1), (5, .ct (intC k))]) (fun _ => [(1, .box 53 (frCs g)), (0, .box 53 (frCs f))]) (fun k => (limbs f.num).length - k) 0 ⟨Nat.zero_le _, fun j h => absurd h (Nat.not_lt_zero j)⟩ (by exact Qu rfl ⟨rfl, rfl, rfl, trivial⟩) ?_
  intro k ⟨hk, hv⟩
  dsimp only at hk ⊢
  have e2 : (k : Int).toNat = k := Int.toNat_natCast k
  (refine Qy (Qy (Qq fun K hK => ?_)); refine Qz rfl rfl rfl ?_; refine QY rfl rfl rfl (by with_reducible first | exact fF0 | exact fF1 | exact fF2 | exact fR0 | exact fR1) rfl ?_; refine QJ rfl rfl rfl rfl rfl (by with_reducible first | exact lInt | exact lNat | exact lBool | exact lInts) rfl ?_; refine Qd rfl rfl (by with_reducible first | exact sNat.und | exact sInts.und) (List.length_map ..) rfl ?_; refine Qk ilss rfl rfl rfl rfl ?_; refine Qj (hK _ _ (Qx ?_)); clear hK K)
  refine Q1 rfl (fun h => ?_) (fun h => ?_)
  · (refine Q0 (Qx (Qy (Q2 (Qy ?_)))))
    refine XJ (by with_reducible exact mixed) 11 (.p 0 (.p 2 (.p 5 (.p 7 (.f 1 (.p 3 (.f 4 (.f 6 (.p 8 (.f 9 (.p 10 .done))))))))))) (by kernel_rfl) (fun K hK => ?_)
    (refine QY rfl rfl rfl (by with_reducible first | exact fF0 | exact fF1 | exact fF2 | exact fR0 | exact fR1) rfl ?_; refine Qz rfl rfl rfl ?_; refine QY rfl rfl rfl (by with_reducible first | exact fF0 | exact fF1 | exact fF2 | exact fR0 | exact fR1) rfl ?_; refine Qz rfl rfl rfl ?_; refine QJ rfl rfl rfl rfl rfl (by with_reducible first | exact lInt | exact lNat | exact lBool | exact lInts) rfl ?_; refine Qm rfl rfl rfl (by with_reducible first | exact sNat | exact sInts) (by omega) (XV (by omega) (by omega)) rfl ?_; refine Xx rfl rfl rfl (by with_reducible first | exact lInt | exact lNat | exact lBool | exact lInts) rfl ?_; refine QJ rfl rfl rfl rfl rfl (by with_reducible first | exact lInt | exact lNat | exact lBool | exact lInts) rfl ?_; refine Qm rfl rfl rfl (by with_reducible first | exact sNat | exact sInts) (by omega) (XV (by omega) (by omega)) rfl ?_; refine Xx rfl rfl rfl (by with_reducible first | exact lInt | exact lNat | exact lBool | exact lInts) rfl ?_; refine Qk ineq rfl rfl rfl rfl ?_; refine Qj (hK _ _ (Qx ?_)); clear hK K)
    refine Q1 rfl (fun h4 => ?_) (fun h4 => ?_)
    · rw [e2] at h4
      (refine Qy (Qq fun K hK => ?_); refine Qv rfl rfl rfl ?_; refine Qj (hK _ _ (Qx (QU (Q5 (QV (QV (Q5 (QV ?_)))))))); clear hK K)
      refine QW [_] rfl (QQ rfl QX) (by rw [no2 (fun h => h4 (by rw [h]))]; rfl) rfl
    · rw [e2] at h4
      have h4 := Decidable.byContradiction h4
      (refine Q0 (Qx (Qq fun K hK => ?_)); refine Qz rfl rfl rfl ?_; refine Qk (iadd (by omega) (by omega)) rfl rfl rfl rfl ?_; refine Qv rfl rfl rfl ?_; refine Qj (hK _ _ (Q4 ?_)); clear hK K)
      refine Q9 (k + 1) (by omega) ⟨by omega, fun j hj => ?_⟩ (by exact Qu rfl ⟨rfl, rfl, by simp only [Int.natCast_add]; rfl, trivial⟩)
      rcases Nat.lt_or_ge j k with h5 | h5
      · exact hv j h5
      · have : j = k := by omega
        rw [this]; exact h4
  · have hnum : limbs f.num = limbs g.num := ext_getD h2 fun j hj => hv j (by omega)
    clear hv
    (refine Qo (Qx (Qy (Qy (Qq fun K hK => ?_)))); refine Qv rfl rfl rfl ?_; refine Qj (hK _ _ (Qx (Q2 ?_))); clear hK K)
    refine Xz (α := Nat) (fun k => k ≤ (limbs f.den).length ∧ ∀ j, j < k → (limbs f.den).getD j 0 = (limbs g.den).getD j 0)
      (fun k => [(2, .own 0), (3, .own 1), (6, .ct (intC k))]) (fun _ => [(1, .box 53 (frCs g)), (0, .box 53 (frCs f))]) (fun k => (limbs f.den).length - k) 0 ⟨Nat.zero_le _, fun j h => absurd h (Nat.not_lt_zero j)⟩ (by exact Qu rfl ⟨rfl, rfl, rfl, trivial⟩) ?_
    clear hk e2 h
    clear k
    intro k ⟨hk, hv⟩
    dsimp only at hk ⊢
    have e2 : (k : Int).toNat = k := Int.toNat_natCast k
    (refine Qy (Qy (Qq fun K hK => ?_)); refine Qz rfl rfl rfl ?_; refine QY rfl rfl rfl (by with_reducible first | exact fF0 | exact fF1 | exact fF2 | exact fR0 | exact fR1) rfl ?_; refine QJ rfl rfl rfl rfl rfl (by with_reducible first | exact lInt | exact lNat | exact lBool | exact lInts) rfl ?_; refine Qd rfl rfl (by with_reducible first | exact sNat.und | exact sInts.und) (List.length_map ..) rfl ?_; refine Qk ilss rfl rfl rfl rfl ?_; refine Qj (hK _ _ (Qx ?_)); clear hK K)
    refine Q1 rfl (fun h => ?_) (fun h => ?_)
    · (refine Q0 (Qx (Qy (Q2 (Qy ?_)))))
      refine XJ (by with_reducible exact mixed) 11 (.p 0 (.p 2 (.p 5 (.p 7 (.f 1 (.p 3 (.f 4 (.f 6 (.p 8 (.f 9 (.p 10 .done))))))))))) (by kernel_rfl) (fun K hK => ?_)
      (refine QY rfl rfl rfl (by with_reducible first | exact fF0 | exact fF1 | exact fF2 | exact fR0 | exact fR1) rfl ?_; refine Qz rfl rfl rfl ?_; refine QY rfl rfl rfl (by with_reducible first | exact fF0 | exact fF1 | exact fF2 | exact fR0 | exact fR1) rfl ?_; refine Qz rfl rfl rfl ?_; refine QJ rfl rfl rfl rfl rfl (by with_reducible first | exact lInt | exact lNat | exact lBool | exact lInts) rfl ?_; refine Qm rfl rfl rfl (by with_reducible first | exact sNat | exact sInts) (by omega) (XV (by omega) (by omega)) rfl ?_; refine Xx rfl rfl rfl (by with_reducible first | exact lInt | exact lNat | exact lBool | exact lInts) rfl ?_; refine QJ rfl rfl rfl rfl rfl (by with_reducible first | exact lInt | exact lNat | exact lBool | exact lInts) rfl ?_; refine Qm rfl rfl rfl (by with_reducible first | exact sNat | exact sInts) (by omega) (XV (by omega) (by omega)) rfl ?_; refine Xx rfl rfl rfl (by with_reducible first | exact lInt | exact lNat | exact lBool | exact lInts) rfl ?_; refine Qk ineq rfl rfl rfl rfl ?_; refine Qj (hK _ _ (Qx ?_)); clear hK K)
      refine Q1 rfl (fun h4 => ?_) (fun h4 => ?_)
      · rw [e2] at h4
        (refine Qy (Qq fun K hK => ?_); refine Qv rfl rfl rfl ?_; refine Qj (hK _ _ (Qx (QU (Q5 (QV (QV (Q5 (QV ?_)))))))); clear hK K)
        refine QW [_] rfl (QQ rfl QX) (by rw [no3 (fun h => h4 (by rw [h]))]; rfl) rfl
      · rw [e2] at h4
        have h4 := Decidable.byContradiction h4
        (refine Q0 (Qx (Qq fun K hK => ?_)); refine Qz rfl rfl rfl ?_; refine Qk (iadd (by omega) (by omega)) rfl rfl rfl rfl ?_; refine Qv rfl rfl rfl ?_; refine Qj (hK _ _ (Q4 ?_)); clear hK K)
        refine Q9 (k + 1) (by omega) ⟨by omega, fun j hj => ?_⟩ (by exact Qu rfl ⟨rfl, rfl, by simp only [Int.natCast_add]; rfl, trivial⟩)
        rcases Nat.lt_or_ge j k with h5 | h5
        · exact hv j h5
        · have : j = k := by omega
          rw [this]; exact h4
    · have hden : limbs f.den = limbs g.den := ext_getD h3 fun j hj => hv j (by omega)
      clear hv
      (refine Qo (Qx (Qy (Qq fun K hK => ?_))); refine Qv rfl rfl rfl ?_; refine Qj (hK _ _ (Qx (QU ?_))); clear hK K)
      refine QW [_] rfl (QQ rfl QX) (by rw [yes h1 hnum hden]; rfl) rfl
end Go.Proofs.YtlkdkbdgnjcopaaGreat
namespace Go.Proofs.YtlkdkbdgnjcopaaGreat
open Go.Own Go.Limbs
attribute [local irreducible] St Ops Go.Own.Fin Ok OkB OkN OkT OkL OkF OkM
def dA : List (Int × Int) := [(2, 1), (2, 1), (2, 1), (2, 0), (2, 0), (2, 0), (2, 0), (2, 0), (2, 0), (2, 0), (1, 0)]
theorem dA_low : ∀ i, i < 3 → dA.getD i (0, 0) = (2, 1) := by decide
theorem dA_mid : ∀ i, i < 10 → 2 < i → dA.getD i (0, 0) = (2, 0) := by decide
theorem dA_cnt : cntF (xF 5 0 dA) (wk 2) 1 = (⟨wk 2, 10, 2, 3⟩, 0) := by
  rw [xF_cnt (n := 2) (by decide) (by decide) (by decide) (by decide) (fun t h1 h2 => ?_) (by decide) (by decide) (by decide) (by decide)]
  · decide
  · have : t = 1 ∨ t = 2 := by omega
    rcases this with h | h <;> subst h <;> decide
theorem q2n : (ofQ (Rat.divInt 2 10)).num = 1 := by kernel_rfl
theorem q2d : (ofQ (Rat.divInt 2 10)).den = 5 := by kernel_rfl
theorem q3n : (ofQ (Rat.divInt 3 10)).num = 3 := by kernel_rfl
theorem q3d : (ofQ (Rat.divInt 3 10)).den = 10 := by kernel_rfl
theorem eq_low : eqFr (ofQ (Rat.divInt 2 10)) (ofQ (Rat.divInt 3 10)) = false := decide_eq_false fun h => by
  have h := h.2.1
  rw [q2n, q3n, Zq (by decide) (by decide), Zq (by decide) (by decide)] at h
  exact absurd h (by decide)
theorem goawake : InGo Tryz.prog 9 := InGo.of Tryz.func9 rfl (by decide)
set_option maxHeartbeats 8000000 in
theorem awake_ok : Ok Tryz.prog 9 [] (boolC true) := by
  have hC := Count_ok (xF 5 0 dA) (by rw [xF_len]; decide) (wk 2) 1
  rw [dA_cnt] at hC
  have hR := Rate_ok ⟨wk 2, 10, 2, 3⟩ (by decide) (by decide) (by decide)
  rw [show rateC ⟨wk 2, 10, 2, 3⟩ = .fr (tupT [ratC (Rat.divInt 2 10), ratC (Rat.divInt 3 10), intC 0]) from if_neg (by decide)] at hR
  have hF := rFrom_ok 3 10 (by decide) (by decide) (by decide) (by decide) (by decide)
  have b1 : (limbs (ofQ (Rat.divInt 2 10)).num).length ≤ 1000 ∧ (limbs (ofQ (Rat.divInt 2 10)).den).length ≤ 1000 ∧ (limbs (ofQ (Rat.divInt 3 10)).num).length ≤ 1000 ∧ (limbs (ofQ (Rat.divInt 3 10)).den).length ≤ 1000 := by
    rw [q2n, q2d, q3n, q3d, Zq (by decide) (by decide), Zq (by decide) (by decide), Zq (by decide) (by decide), Zq (by decide) (by decide)]; decide
  have hE1 := Equal_ok (ofQ (Rat.divInt 3 10)) (ofQ (Rat.divInt 3 10)) b1.2.2.1 b1.2.2.2 b1.2.2.1 b1.2.2.2
  rw [eqFr_self] at hE1
  have hE2 := Equal_ok (ofQ (Rat.divInt 2 10)) (ofQ (Rat.divInt 3 10)) b1.1 b1.2.1 b1.2.2.1 b1.2.2.2
  rw [eq_low] at hE2
  refine Ok.enter Tryz.func9 rfl _ Tryz.ntmps9 rfl ?_
  intro S w0
  (refine Qy (Qq fun K hK => ?_); refine Qv rfl rfl rfl ?_; refine Qj (hK _ _ (Qx (Qy ?_))); clear hK K; refine Qq (fun K hK => ?_); refine Qv rfl rfl rfl ?_; refine Qj (hK _ _ (Qx (Qy (Qy ?_)))); clear hK K; refine Qq (fun K hK => ?_); refine Qv rfl rfl rfl ?_; refine Qj (hK _ _ (Qx (Q2 ?_))); clear hK K)
  refine Xg 1 0 35 17 rfl rfl rfl ?_
  refine Xz (α := Nat) (fun i => i ≤ 11) (fun i => [(1, .own 0), (2, .ct (intC i))]) (fun i => [(0, .row 35 17 (rss (xF 5 0 (dA.take i))))]) (fun i => 11 - i) 0 (Nat.zero_le _) (by exact Qu rfl ⟨rfl, rfl, trivial⟩) ?_
  intro i hi
  try dsimp only at hi ⊢
  (refine Qy (Qy (Qq fun K hK => ?_)); refine Qz rfl rfl rfl ?_; refine Qk ilss rfl rfl rfl rfl ?_; refine Qj (hK _ _ (Qx ?_)); clear hK K)
  refine Q1 rfl (fun h => ?_) (fun h => ?_)
  · have hx := take_snoc (z := ((0, 0) : Int × Int)) (l := dA) (i := i) (by show i < 11; omega)
    have hlen2 : (dA.take i).length = i := by rw [List.length_take]; show min i 11 = i; omega
    have hlen : (xF 5 0 (dA.take i)).length = i := by rw [xF_len, hlen2]
    (refine Q0 (Qx (Qy (Q2 (Qy (Qq fun K hK => ?_))))); refine Qz rfl rfl rfl ?_; refine Qz rfl rfl rfl ?_; refine Qk (imul (by omega) (by omega)) rfl rfl rfl rfl ?_; refine Qz rfl rfl rfl ?_; refine Qk (imul (by omega) (by omega)) rfl rfl rfl rfl ?_; refine Qk (iadd (by omega) (by omega)) rfl rfl rfl rfl ?_)
    refine Qn rfl (by with_reducible exact bRes) rfl (.one rfl rfl rfl rfl (.one rfl rfl rfl rfl (.one rfl rfl rfl rfl (.one rfl rfl rfl rfl (.one rfl rfl rfl rfl (.one rfl rfl rfl rfl .nil)))))) rfl ?_
    refine Qi 1 rfl rfl (by with_reducible exact zvRes) rfl rfl rfl ?_
    refine Qb 17 rfl rfl rfl rfl rfl (by with_reducible exact szRes) rfl rfl ?_
    (refine Qj (hK _ _ (Qx (Qy (Qy ?_)))); clear hK K; refine Qq (fun K hK => ?_); refine Qz rfl rfl rfl ?_; refine Qk ieql rfl rfl rfl rfl ?_; refine Qj (hK _ _ (Qx ?_)); clear hK K)
    refine Q1 rfl (fun g => ?_) (fun g => ?_)
    · have hi10 : i = 10 := by omega
      subst hi10
      have HD : dA.getD 10 (0, 0) = (1, 0) := rfl
      (refine Qq (fun K hK => ?_); refine QY rfl rfl rfl (by with_reducible first | exact fS0 | exact fS1 | exact fS2 | exact fS3 | exact fS4 | exact fS5 | exact fS6 | exact fS7 | exact fS8 | exact fS9 | exact fS10 | exact fS11 | exact fN0 | exact fN1 | exact fN2 | exact fN3 | exact fN4 | exact fN5) rfl ?_; refine Zx rfl rfl rfl rfl rfl (by with_reducible first | exact zInt | exact zAddr | exact zClaims) (Nat.le_of_ble_eq_true rfl) ?_; refine Qj (hK _ _ (Qx (Qy (Qy ?_)))); clear hK K; refine Qq (fun K hK => ?_); refine Qz rfl rfl rfl ?_; refine Qk igtr rfl rfl rfl rfl ?_; refine Qj (hK _ _ (Qx (Qt rfl ?_))); clear hK K; refine Qq (fun K hK => ?_); refine QY rfl rfl rfl (by with_reducible first | exact fS0 | exact fS1 | exact fS2 | exact fS3 | exact fS4 | exact fS5 | exact fS6 | exact fS7 | exact fS8 | exact fS9 | exact fS10 | exact fS11 | exact fN0 | exact fN1 | exact fN2 | exact fN3 | exact fN4 | exact fN5) rfl ?_; refine QJ rfl rfl rfl rfl rfl (by with_reducible first | exact lInt | exact Qh | exact Qf | exact lRess) rfl ?_)
      refine Ops.conv (q := 1) rfl rfl (by with_reducible exact uInt) (by with_reducible exact uAddr) (by decide) rfl ?_
      refine Qn rfl (by with_reducible exact bAns) rfl (.one rfl rfl rfl rfl (.one rfl rfl rfl rfl .nil)) rfl ?_
      (refine QY rfl rfl rfl (by with_reducible first | exact fS0 | exact fS1 | exact fS2 | exact fS3 | exact fS4 | exact fS5 | exact fS6 | exact fS7 | exact fS8 | exact fS9 | exact fS10 | exact fS11 | exact fN0 | exact fN1 | exact fN2 | exact fN3 | exact fN4 | exact fN5) rfl ?_)
      refine Zx rfl rfl rfl rfl rfl (by with_reducible exact zBool1) (Nat.le_of_ble_eq_true rfl) ?_
      (refine QY rfl rfl rfl (by with_reducible first | exact fS0 | exact fS1 | exact fS2 | exact fS3 | exact fS4 | exact fS5 | exact fS6 | exact fS7 | exact fS8 | exact fS9 | exact fS10 | exact fS11 | exact fN0 | exact fN1 | exact fN2 | exact fN3 | exact fN4 | exact fN5) rfl ?_)
      refine Ops.stNA rfl rfl rfl rfl rfl (by exact szAns) (Nat.le_of_ble_eq_true rfl) ?_
      (refine Qj (hK _ _ (Qx ?_)); clear hK K; refine Qq (fun K hK => ?_); refine Qz rfl rfl rfl ?_; refine Q8 (n := 17) rfl rfl rfl rfl rfl (by with_reducible exact lRes) rfl ?_)
      refine ZX (n := 17) rfl rfl (by with_reducible exact sRes) rfl rfl (by decide) rfl ?_
      refine Xk 10 (rss (xF 5 0 (dA.take (10 + 1)))) rfl rfl rfl rfl (by with_reducible exact sRes) (by rw [Z6, hlen]) rfl (by omega) (by omega) (by rw [hx, xF_snoc, rss_snoc, hlen2, HD, Int.zero_add]; rfl) rfl ?_
      (refine Qv rfl rfl rfl ?_; refine Qj (hK _ _ (Qx ?_)); clear hK K; refine Qq (fun K hK => ?_); refine Qz rfl rfl rfl ?_; refine Qk (iadd (by omega) (by omega)) rfl rfl rfl rfl ?_; refine Qv rfl rfl rfl ?_; refine Qj (hK _ _ (Q4 ?_)); clear hK K)
      refine Xj 1 ?_
      refine Q9 (10 + 1) (by omega) (by omega) (by exact Qu rfl ⟨rfl, by simp only [Int.natCast_add]; rfl, trivial⟩)
    (refine Q0 (Qx (Qy (Qy (Qq fun K hK => ?_)))); refine Qz rfl rfl rfl ?_; refine Qk igtr rfl rfl rfl rfl ?_; refine Qj (hK _ _ (Qx ?_)); clear hK K)
    refine Q1 rfl (fun g2 => ?_) (fun g2 => ?_)
    · have HD := dA_mid i (by omega) (by omega)
      (refine Qq (fun K hK => ?_); refine QY rfl rfl rfl (by with_reducible first | exact fS0 | exact fS1 | exact fS2 | exact fS3 | exact fS4 | exact fS5 | exact fS6 | exact fS7 | exact fS8 | exact fS9 | exact fS10 | exact fS11 | exact fN0 | exact fN1 | exact fN2 | exact fN3 | exact fN4 | exact fN5) rfl ?_; refine QJ rfl rfl rfl rfl rfl (by with_reducible first | exact lInt | exact Qh | exact Qf | exact lRess) rfl ?_)
      refine Ops.conv (q := 2) rfl rfl (by with_reducible exact uInt) (by with_reducible exact uAddr) (by decide) rfl ?_
      refine Qn rfl (by with_reducible exact bAns) rfl (.one rfl rfl rfl rfl (.one rfl rfl rfl rfl .nil)) rfl ?_
      (refine QY rfl rfl rfl (by with_reducible first | exact fS0 | exact fS1 | exact fS2 | exact fS3 | exact fS4 | exact fS5 | exact fS6 | exact fS7 | exact fS8 | exact fS9 | exact fS10 | exact fS11 | exact fN0 | exact fN1 | exact fN2 | exact fN3 | exact fN4 | exact fN5) rfl ?_)
      refine Zx rfl rfl rfl rfl rfl (by with_reducible exact zBool1) (Nat.le_of_ble_eq_true rfl) ?_
      (refine QY rfl rfl rfl (by with_reducible first | exact fS0 | exact fS1 | exact fS2 | exact fS3 | exact fS4 | exact fS5 | exact fS6 | exact fS7 | exact fS8 | exact fS9 | exact fS10 | exact fS11 | exact fN0 | exact fN1 | exact fN2 | exact fN3 | exact fN4 | exact fN5) rfl ?_)
      refine Ops.stNA rfl rfl rfl rfl rfl (by exact szAns) (Nat.le_of_ble_eq_true rfl) ?_
      (refine Qj (hK _ _ (Qx ?_)); clear hK K; refine Qq (fun K hK => ?_); refine Qz rfl rfl rfl ?_; refine Q8 (n := 17) rfl rfl rfl rfl rfl (by with_reducible exact lRes) rfl ?_)
      refine ZX (n := 17) rfl rfl (by with_reducible exact sRes) rfl rfl (by decide) rfl ?_
      refine Xk i (rss (xF 5 0 (dA.take (i + 1)))) rfl rfl rfl rfl (by with_reducible exact sRes) (by rw [Z6, hlen]) rfl (by omega) (by omega) (by rw [hx, xF_snoc, rss_snoc, hlen2, HD, Int.zero_add]; rfl) rfl ?_
      (refine Qv rfl rfl rfl ?_; refine Qj (hK _ _ (Qx ?_)); clear hK K; refine Qq (fun K hK => ?_); refine Qz rfl rfl rfl ?_; refine Qk (iadd (by omega) (by omega)) rfl rfl rfl rfl ?_; refine Qv rfl rfl rfl ?_; refine Qj (hK _ _ (Q4 ?_)); clear hK K)
      refine Xj 1 ?_
      refine Q9 (i + 1) (by omega) (by omega) (by exact Qu rfl ⟨rfl, by simp only [Int.natCast_add]; rfl, trivial⟩)
    · have HD := dA_low i (by omega)
      (refine Q0 (Qx (Qq fun K hK => ?_)); refine Qz rfl rfl rfl ?_; refine Q8 (n := 17) rfl rfl rfl rfl rfl (by with_reducible exact lRes) rfl ?_)
      refine ZX (n := 17) rfl rfl (by with_reducible exact sRes) rfl rfl (by decide) rfl ?_
      refine Xk i (rss (xF 5 0 (dA.take (i + 1)))) rfl rfl rfl rfl (by with_reducible exact sRes) (by rw [Z6, hlen]) rfl (by omega) (by omega) (by rw [hx, xF_snoc, rss_snoc, hlen2, HD, Int.zero_add]; rfl) rfl ?_
      (refine Qv rfl rfl rfl ?_; refine Qj (hK _ _ (Qx ?_)); clear hK K; refine Qq (fun K hK => ?_); refine Qz rfl rfl rfl ?_; refine Qk (iadd (by omega) (by omega)) rfl rfl rfl rfl ?_; refine Qv rfl rfl rfl ?_; refine Qj (hK _ _ (Q4 ?_)); clear hK K)
      refine Xj 1 ?_
      refine Q9 (i + 1) (by omega) (by omega) (by exact Qu rfl ⟨rfl, by simp only [Int.natCast_add]; rfl, trivial⟩)
  · have hi' : i = 11 := by omega
    subst hi'
    rw [show List.take 11 dA = dA from rfl]
    (refine Qo (Qx (Qy (Qq fun K hK => ?_))); refine Qz rfl rfl rfl ?_)
    refine Xs 0 _ rfl (Za _ _) XW ?_
    refine Qn rfl (by with_reducible exact bWire) rfl (.one rfl rfl rfl rfl (.one rfl rfl rfl rfl .nil)) rfl ?_
    refine QZ goCount hC rfl rfl rfl rfl ?_
    (refine Qz rfl rfl rfl ?_; refine Qa rfl rfl rfl rfl ?_; refine Qa rfl rfl rfl rfl ?_; refine Qi 0 rfl rfl (by with_reducible first | exact zvTrav | exact zvCn) rfl rfl rfl ?_; refine Qb 5 rfl rfl rfl rfl rfl (by with_reducible exact szCn) rfl rfl ?_; refine Qv rfl rfl rfl ?_; refine Qj (hK _ _ (Qx (Qy ?_))); clear hK K; refine Qq (fun K hK => ?_); refine Q8 (n := 5) rfl rfl rfl rfl rfl (by with_reducible exact lCn) rfl ?_)
    refine QZ goRate hR rfl rfl rfl rfl ?_
    (refine Qz rfl rfl rfl ?_; refine Qa rfl rfl rfl rfl ?_; refine Qa rfl rfl rfl rfl ?_; refine Qa rfl rfl rfl rfl ?_)
    refine Qi 2 rfl rfl (by with_reducible exact zvFrac) rfl rfl rfl ?_
    refine Qi 3 rfl rfl (by with_reducible exact zvFrac) rfl rfl rfl ?_
    refine Qb 3 rfl rfl rfl rfl rfl (by with_reducible exact szFrac) rfl rfl ?_
    refine Qb 3 rfl rfl rfl rfl rfl (by with_reducible exact szFrac) rfl rfl ?_
    (refine Qv rfl rfl rfl ?_; refine Qj (hK _ _ (Qx (Qy ?_))); clear hK K; refine Qq (fun K hK => ?_))
    refine QZ gorFrom hF rfl rfl rfl rfl ?_
    (refine Qz rfl rfl rfl ?_; refine Qa rfl rfl rfl rfl ?_; refine Qa rfl rfl rfl rfl ?_)
    refine Qi 4 rfl rfl (by with_reducible exact zvFrac) rfl rfl rfl ?_
    refine Qb 3 rfl rfl rfl rfl rfl (by with_reducible exact szFrac) rfl rfl ?_
    (refine Qv rfl rfl rfl ?_; refine Qj (hK _ _ (Qx (Qy ?_))); clear hK K; refine Qq (fun K hK => ?_); refine Qz rfl rfl rfl ?_; refine Qk ieql rfl rfl rfl rfl ?_; refine Qz rfl rfl rfl ?_; refine QY rfl rfl rfl (by with_reducible first | exact fTk0 | exact fTk1 | exact fTk2 | exact fWr0 | exact fWr1 | exact X6 | exact X7 | exact Xt | exact fStm1 | exact fCn0 | exact fCn1 | exact fCn2 | exact fCn3 | exact fCs0 | exact fCs1) rfl ?_; refine QJ rfl rfl rfl rfl rfl (by with_reducible first | exact lInt | exact Qh | exact Qf | exact lRess) rfl ?_; refine Qk ieql rfl rfl rfl rfl ?_; refine QK rfl rfl rfl rfl ?_; refine Qz rfl rfl rfl ?_; refine QY rfl rfl rfl (by with_reducible first | exact fTk0 | exact fTk1 | exact fTk2 | exact fWr0 | exact fWr1 | exact X6 | exact X7 | exact Xt | exact fStm1 | exact fCn0 | exact fCn1 | exact fCn2 | exact fCn3 | exact fCs0 | exact fCs1) rfl ?_; refine QJ rfl rfl rfl rfl rfl (by with_reducible first | exact lInt | exact Qh | exact Qf | exact lRess) rfl ?_; refine Qk ieql rfl rfl rfl rfl ?_; refine QK rfl rfl rfl rfl ?_; refine Qz rfl rfl rfl ?_; refine QY rfl rfl rfl (by with_reducible first | exact fTk0 | exact fTk1 | exact fTk2 | exact fWr0 | exact fWr1 | exact X6 | exact X7 | exact Xt | exact fStm1 | exact fCn0 | exact fCn1 | exact fCn2 | exact fCn3 | exact fCs0 | exact fCs1) rfl ?_; refine QJ rfl rfl rfl rfl rfl (by with_reducible first | exact lInt | exact Qh | exact Qf | exact lRess) rfl ?_; refine Qk ieql rfl rfl rfl rfl ?_; refine QK rfl rfl rfl rfl ?_; refine Qz rfl rfl rfl ?_; refine Qz rfl rfl rfl ?_; refine Qk ieql rfl rfl rfl rfl ?_; refine QK rfl rfl rfl rfl ?_; refine Qz rfl rfl rfl ?_)
    refine Q8 (n := 3) rfl rfl rfl rfl rfl (by with_reducible exact ZU) rfl ?_
    refine Q8 (n := 3) rfl rfl rfl rfl rfl (by with_reducible exact ZU) rfl ?_
    refine QZ goEqual hE1 rfl rfl rfl rfl ?_
    (refine QK rfl rfl rfl rfl ?_; refine Qz rfl rfl rfl ?_)
    refine Q8 (n := 3) rfl rfl rfl rfl rfl (by with_reducible exact ZU) rfl ?_
    refine Q8 (n := 3) rfl rfl rfl rfl rfl (by with_reducible exact ZU) rfl ?_
    refine QZ goEqual hE2 rfl rfl rfl rfl ?_
    (refine Qs rfl rfl rfl ?_; refine QK rfl rfl rfl rfl ?_; refine Qv rfl rfl rfl ?_; refine Qj (hK _ _ (Qx (QU ?_))); clear hK K)
    refine QW [_] rfl (QQ rfl QX) rfl rfl
abbrev paT : List (_root_.Fin 4294967296) := [adN 1, adN 2, adN 3]
theorem paT_at {t : Int} (h1 : 1 ≤ t) (h2 : t ≤ 3) : paT.getD (t - 1).toNat 0 = adN t := by
  have : t = 1 ∨ t = 2 ∨ t = 3 := by omega
  rcases this with h | h | h <;> subst h <;> rfl
set_option maxHeartbeats 16000000 in
theorem LossTruth_ok (bs : List Int) (hb : ∀ b ∈ bs, 0 ≤ b ∧ b < 256) : Ok Tryz.prog 3 [bytesC bs] (boolC true) := by
  refine Ok.enter Tryz.func3 rfl _ Tryz.ntmps3 rfl ?_
  intro S w
  have hB : Bytes (bs.take 400) := ⟨fun b h => (hb b (List.mem_of_mem_take h)).1, fun b h => (hb b (List.mem_of_mem_take h)).2, by simp; omega⟩
  have hRoll := Roll_ok bs
  generalize bs.take 400 = B0 at hB hRoll
  (refine Qy (Qq fun K hK => ?_); refine Qv rfl rfl rfl ?_; refine Qj (hK _ _ (Qx (Qy (Qy ?_)))); clear hK K; refine Qq (fun K hK => ?_))
  refine QZ goawake awake_ok rfl rfl rfl rfl ?_
  (refine Qs rfl rfl rfl ?_; refine Qj (hK _ _ (Qx (Xy rfl (Q0 (Qx (Qy ?_)))))); clear hK K; refine Qq (fun K hK => ?_); refine Qz rfl rfl rfl ?_)
  refine Ops.callN 0 goRoll hRoll rfl rfl rfl rfl rfl rfl ?_
  (refine Qv rfl rfl rfl ?_; refine Qj (hK _ _ (Qx (Qy ?_))); clear hK K; refine Qq (fun K hK => ?_))
  refine Ops.lit (m := 3) (n := 1) (cs := [adrF (adN 1), adrF (adN 2), adrF (adN 3)]) rfl rfl (by with_reducible exact sAdrs) (.one rfl rfl rfl rfl (.one rfl rfl rfl rfl (.one rfl rfl rfl rfl .nil))) (by decide) rfl ?_
  (refine Qv rfl rfl rfl ?_; refine Qj (hK _ _ (Qx (Qy ?_))); clear hK K; refine Qq (fun K hK => ?_); refine Qv rfl rfl rfl ?_; refine Qj (hK _ _ (Qx (Qy ?_))); clear hK K; refine Qq (fun K hK => ?_); refine Qv rfl rfl rfl ?_; refine Qj (hK _ _ (Qx (Qy (Qy ?_)))); clear hK K; refine Qq (fun K hK => ?_); refine Qv rfl rfl rfl ?_; refine Qj (hK _ _ (Qx (Q2 ?_))); clear hK K)
  refine Xg 5 1 35 17 rfl rfl rfl ?_
  refine Xg 6 2 3 1 rfl rfl rfl ?_
  refine Xz (α := Nat × List (Int × Int) × Nat) (fun q => q.1 ≤ 22 ∧ q.2.1.length = q.1 ∧ Dat q.2.1)
    (fun q => [(3, .own 0), (4, .ct (adsC paT)), (5, .own 1), (6, .own 2), (7, .ct (intC q.1))])
    (fun q => [(2, .row 3 1 (ints (q.2.1.map (·.2)))), (1, .row 35 17 (rss (xF 4 0 q.2.1))), (0, .box 78 (codes B0 q.2.2))])
    (fun q => 23 - q.1) (0, [], 0) ⟨Nat.zero_le _, rfl, Dat.nil⟩ (by exact Qu rfl ⟨rfl, rfl, rfl, rfl, rfl, trivial⟩) ?_
  intro ⟨k, d, p⟩ ⟨hk, hkd, hd⟩
  try dsimp only at hk hkd hd ⊢
  (refine Qy (Qy (Qq fun K hK => ?_)); refine Qz rfl rfl rfl ?_; refine Qz rfl rfl rfl ?_)
  refine Ops.callB goNext (Next_ok B0 p 20 (by decide) (by decide) hB) rfl rfl rfl rfl rfl (fun q hq => ?_)
  obtain ⟨n, p1⟩ := q
  dsimp only at hq ⊢
  (refine Qk (iadd (by omega) (by omega)) rfl rfl rfl rfl ?_; refine Qk ilss rfl rfl rfl rfl ?_; refine Qj (hK _ _ (Qx ?_)); clear hK K)
  refine Q1 rfl (fun h => ?_) (fun h => ?_)
  · (refine Q0 (Qx (Qy (Q2 (Qy (Qq fun K hK => ?_))))); refine Qz rfl rfl rfl ?_)
    refine Ops.callB goNext (Next_ok B0 p1 3 (by decide) (by decide) hB) rfl rfl rfl rfl rfl (fun q hq1 => ?_)
    obtain ⟨t0, p2⟩ := q
    dsimp only at hq1 ⊢
    (refine Qk (iadd (by omega) (by omega)) rfl rfl rfl rfl ?_; refine Qv rfl rfl rfl ?_; refine Qj (hK _ _ (Qx (Qy (Qy ?_)))); clear hK K; refine Qq (fun K hK => ?_); refine Qz rfl rfl rfl ?_; refine Qk ilss rfl rfl rfl rfl ?_; refine Qj (hK _ _ (Qx ?_)); clear hK K)
    refine Zf (α := Int) (fun tt => 1 ≤ tt ∧ tt ≤ 3 ∧ ((k : Int) < 3 → tt = k + 1)) (fun tt => [(3, .own 0), (4, .ct (adsC paT)), (5, .own 1), (6, .own 2), (7, .ct (intC k)), (8, .ct (intC tt))]) (fun _ => [(2, .row 3 1 (ints (d.map (·.2)))), (1, .row 35 17 (rss (xF 4 0 d))), (0, .box 78 (codes B0 p2))]) (fun tt htt => ?_) (fun KN hM => ?_)
    rotate_left
    · refine Q1 rfl (fun g => ?_) (fun g => ?_)
      · (refine Qq (fun K hK => ?_); refine Qz rfl rfl rfl ?_; refine Qk (iadd (by omega) (by omega)) rfl rfl rfl rfl ?_; refine Qv rfl rfl rfl ?_; refine Qj (hK _ _ ?_); clear hK K)
        exact Xq hM ((k : Int) + 1) ⟨by omega, by omega, fun _ => rfl⟩ (Qu rfl ⟨rfl, rfl, rfl, rfl, rfl, rfl, trivial⟩)
      · (refine Q0 ?_)
        exact Xq hM (1 + t0) ⟨by omega, by omega, fun e => absurd e g⟩ (Qu rfl ⟨rfl, rfl, rfl, rfl, rfl, rfl, trivial⟩)
    obtain ⟨t1, t2, t3⟩ := htt
    (refine Qy (Qq fun K hK => ?_); refine Qz rfl rfl rfl ?_; refine Qz rfl rfl rfl ?_; refine Qk (imul (by omega) (by omega)) rfl rfl rfl rfl ?_; refine Qz rfl rfl rfl ?_; refine Qz rfl rfl rfl ?_; refine Qk (imul (by omega) (by omega)) rfl rfl rfl rfl ?_; refine Qk (iadd (by omega) (by omega)) rfl rfl rfl rfl ?_)
    refine Qn rfl (by with_reducible exact bRes) rfl (.one rfl rfl rfl rfl (.one rfl rfl rfl rfl (.one rfl rfl rfl rfl (.one rfl rfl rfl rfl (.one rfl rfl rfl rfl (.one rfl rfl rfl rfl .nil)))))) rfl ?_
    refine Qi 3 rfl rfl (by with_reducible exact zvRes) rfl rfl rfl ?_
    refine Qb 17 rfl rfl rfl rfl rfl (by with_reducible exact szRes) rfl rfl ?_
    (refine Qj (hK _ _ (Qx (Qy ?_))); clear hK K; refine Qq (fun K hK => ?_); refine Qz rfl rfl rfl ?_; refine Qz rfl rfl rfl ?_; refine Qk (iadd (by omega) (by omega)) rfl rfl rfl rfl ?_)
    refine Ops.callB goNext (Next_ok B0 p2 (tt + 4) (by omega) (by omega) hB) rfl rfl rfl rfl rfl (fun q hq2 => ?_)
    obtain ⟨w0, p3⟩ := q
    dsimp only at hq2 ⊢
    refine Qv rfl rfl rfl ?_
    refine Qj (hK _ _ ?_)
    clear hK K
    refine Qx ?_
    refine Qy ?_
    refine Zf (α := Int) (fun ww => 0 ≤ ww ∧ ww ≤ tt ∧ ((k : Int) < 3 → ww = 0)) (fun ww => [(3, .own 0), (4, .ct (adsC paT)), (5, .own 1), (6, .own 2), (7, .ct (intC k)), (8, .ct (intC tt)), (9, .own 3), (10, .ct (intC ww))]) (fun _ => [(3, .box 35 (rsCs ⟨0, 0, k, 10 * k, 9, 17, 0, tt, false, false, 10 * k + 4, 0, 0, 0, 0, 0, 0⟩)), (2, .row 3 1 (ints (d.map (·.2)))), (1, .row 35 17 (rss (xF 4 0 d))), (0, .box 78 (codes B0 p3))]) (fun ww hww => ?_) (fun KN hM => ?_)
    rotate_left
    · (refine Qy (Qq fun K hK => ?_); refine Qz rfl rfl rfl ?_; refine Qz rfl rfl rfl ?_; refine Qk igtr rfl rfl rfl rfl ?_; refine Qz rfl rfl rfl ?_)
      refine Qc 53 rfl (fun g => ?_) (fun g => ?_)
      · (refine Qw rfl rfl rfl ?_; refine Qw rfl rfl rfl ?_; refine QK rfl rfl rfl rfl ?_; refine Qj (hK _ _ (Qx (Qt rfl ?_))); clear hK K; refine Qq (fun K hK => ?_); refine Qv rfl rfl rfl ?_; refine Qj (hK _ _ ?_); clear hK K)
        exact Xq hM 0 ⟨by omega, by omega, fun _ => rfl⟩ (Qu rfl ⟨rfl, rfl, rfl, rfl, rfl, rfl, rfl, rfl, trivial⟩)
      · (refine Qz rfl rfl rfl ?_; refine Qk ilss rfl rfl rfl rfl ?_; refine Q6 rfl rfl rfl rfl ?_; refine Qj (hK _ _ (Qx ?_)); clear hK K)
        refine Q1 rfl (fun g2 => ?_) (fun g2 => ?_)
        · (refine Qq (fun K hK => ?_); refine Qv rfl rfl rfl ?_; refine Qj (hK _ _ ?_); clear hK K)
          exact Xq hM 0 ⟨by omega, by omega, fun _ => rfl⟩ (Qu rfl ⟨rfl, rfl, rfl, rfl, rfl, rfl, rfl, rfl, trivial⟩)
        · (refine Q0 ?_)
          exact Xq hM w0 ⟨by omega, by omega, fun e => absurd e g2⟩ (Qu rfl ⟨rfl, rfl, rfl, rfl, rfl, rfl, rfl, rfl, trivial⟩)
    obtain ⟨w1, w2, w3⟩ := hww
    (refine Qy (Qy (Qq fun K hK => ?_)); refine Qz rfl rfl rfl ?_; refine Qk ieql rfl rfl rfl rfl ?_; refine Qj (hK _ _ (Qx ?_)); clear hK K)
    refine Zf (α := Unit) (fun _ => True) (fun _ => [(3, .own 0), (4, .ct (adsC paT)), (5, .own 1), (6, .own 2), (7, .ct (intC k)), (8, .ct (intC tt)), (9, .own 3), (10, .ct (intC ww))]) (fun _ => [(3, .box 35 (rsCs (mkX 4 k tt ww))), (2, .row 3 1 (ints (d.map (·.2)))), (1, .row 35 17 (rss (xF 4 0 d))), (0, .box 78 (codes B0 p3))]) (fun _ _ => ?_) (fun KN hM => ?_)
    rotate_left
    · refine Q1 rfl (fun g => ?_) (fun g => ?_)
      · have hmk : mkX 4 k tt ww = ⟨0, 0, k, 10 * k, 9, 17, 0, tt, true, false, 10 * k + 4, adN tt, 1, 0, 0, 0, 0⟩ := by rw [g]; rfl
        rw [hmk] at hM
        have hpa := paT_at t1 t2
        refine St.drawQ (by with_reducible exact mixed) [7, 9] (.p 0 (.p 1 (.p 2 (.p 3 (.p 6 (.m 4 (.p 5 (.a 7 (.p 8 (.a 9 .done .non)) .non)) (.a 7 (.f 4 (.p 5 (.p 8 (.a 9 .done .non)))) .non))))))) (by kernel_rfl) (fun K hK => ?_)
        refine ZY ?_
        refine Qz rfl rfl rfl ?_
        refine Qj ?_
        refine ZY ?_
        refine Qz rfl rfl rfl ?_
        refine Qj ?_
        refine ZY ?_
        (refine Qk (isub (by omega) (by omega)) rfl rfl rfl rfl ?_)
        refine Qj ?_
        refine ZY ?_
        refine Qm rfl rfl rfl (by with_reducible exact sAdrs) (by omega) (adrs_at (by omega) (by show tt - 1 < 3; omega)) rfl ?_
        rw [hpa]
        refine Qj ?_
        refine ZY ?_
        (refine QY rfl rfl rfl (by with_reducible first | exact fS0 | exact fS1 | exact fS2 | exact fS3 | exact fS4 | exact fS5 | exact fS6 | exact fS7 | exact fS8 | exact fS9 | exact fS10 | exact fS11 | exact fN0 | exact fN1 | exact fN2 | exact fN3 | exact fN4 | exact fN5) rfl ?_)
        refine Qj ?_
        refine Xm ?_ ?_
        · refine Xx rfl rfl rfl (by with_reducible exact Qh) rfl ?_
          refine Qj ?_
          refine ZY ?_
          refine Qn rfl (by with_reducible exact bAns) rfl (.one rfl rfl rfl rfl (.one rfl rfl rfl rfl .nil)) rfl ?_
          refine Qj ?_
          refine Xw ?_ Ql
          refine Zx rfl rfl rfl rfl rfl (by with_reducible exact zBool1) (Nat.le_of_ble_eq_true rfl) ?_
          refine Qj ?_
          refine ZY ?_
          (refine QY rfl rfl rfl (by with_reducible first | exact fS0 | exact fS1 | exact fS2 | exact fS3 | exact fS4 | exact fS5 | exact fS6 | exact fS7 | exact fS8 | exact fS9 | exact fS10 | exact fS11 | exact fN0 | exact fN1 | exact fN2 | exact fN3 | exact fN4 | exact fN5) rfl ?_)
          refine Qj ?_
          refine Xw ?_ Ql
          refine Ops.stNA rfl rfl rfl rfl rfl (by exact szAns) (Nat.le_of_ble_eq_true rfl) ?_
          refine Qj ?_
          refine Xu (hK _ _ ?_)
          skip
          exact Xq hM () trivial (Qu rfl ⟨rfl, rfl, rfl, rfl, rfl, rfl, rfl, rfl, trivial⟩)
        refine Xw ?_ Ql
        refine Zx rfl rfl rfl rfl rfl (by with_reducible exact zBool1) (Nat.le_of_ble_eq_true rfl) ?_
        refine Qj ?_
        refine X9 ?_
        refine Xx rfl rfl rfl (by with_reducible exact Qh) rfl ?_
        refine Qj ?_
        refine ZY ?_
        refine Qn rfl (by with_reducible exact bAns) rfl (.one rfl rfl rfl rfl (.one rfl rfl rfl rfl .nil)) rfl ?_
        refine Qj ?_
        refine ZY ?_
        (refine QY rfl rfl rfl (by with_reducible first | exact fS0 | exact fS1 | exact fS2 | exact fS3 | exact fS4 | exact fS5 | exact fS6 | exact fS7 | exact fS8 | exact fS9 | exact fS10 | exact fS11 | exact fN0 | exact fN1 | exact fN2 | exact fN3 | exact fN4 | exact fN5) rfl ?_)
        refine Qj ?_
        refine Xw ?_ Ql
        refine Ops.stNA rfl rfl rfl rfl rfl (by exact szAns) (Nat.le_of_ble_eq_true rfl) ?_
        refine Qj ?_
        refine Xu (hK _ _ ?_)
        skip
        exact Xq hM () trivial (Qu rfl ⟨rfl, rfl, rfl, rfl, rfl, rfl, rfl, rfl, trivial⟩)
      · have hmk : mkX 4 k tt ww = ⟨0, 0, k, 10 * k, 9, 17, 0, tt, false, false, 10 * k + 4, 0, 0, 0, 0, 0, 0⟩ := by unfold mkX; rw [if_neg g, if_neg g, decide_eq_false g]
        rw [hmk] at hM
        (refine Q0 ?_)
        exact Xq hM () trivial (Qu rfl ⟨rfl, rfl, rfl, rfl, rfl, rfl, rfl, rfl, trivial⟩)
    (refine Qq (fun K hK => ?_); refine Qz rfl rfl rfl ?_; refine Q8 (n := 17) rfl rfl rfl rfl rfl (by with_reducible exact lRes) rfl ?_)
    refine ZX (n := 17) rfl rfl (by with_reducible exact sRes) rfl rfl (by decide) rfl ?_
    refine Xk k (rss (xF 4 0 (d ++ [(tt, ww)]))) rfl rfl rfl rfl (by with_reducible exact sRes) (by rw [Z6, xF_len, hkd]) rfl (by omega) (by omega) (by rw [xF_snoc, rss_snoc, hkd, Int.zero_add]) rfl ?_
    (refine Qz rfl rfl rfl ?_; refine Qz rfl rfl rfl ?_)
    refine Zz rfl rfl (by with_reducible exact sInts) rfl rfl rfl ?_
    refine Xk k (ints ((d ++ [(tt, ww)]).map (·.2))) rfl rfl rfl rfl (by with_reducible exact sInts) (by simp [ints, hkd]) rfl (by omega) (by omega) (by simp [ints]) rfl ?_
    (refine Qv rfl rfl rfl ?_; refine Qv rfl rfl rfl ?_; refine Qj (hK _ _ (Qx ?_)); clear hK K; refine Qq (fun K hK => ?_); refine Qz rfl rfl rfl ?_; refine Qk (iadd (by omega) (by omega)) rfl rfl rfl rfl ?_; refine Qv rfl rfl rfl ?_; refine Qj (hK _ _ (Q4 ?_)); clear hK K)
    refine Xj 3 ?_
    refine Q9 (k + 1, d ++ [(tt, ww)], p3) (by dsimp only; omega) ⟨by dsimp only; omega, by simp only [List.length_append, List.length_singleton]; omega, hd.snoc ⟨t1, t2⟩ ⟨w1, w2⟩ (fun e => ⟨by rw [hkd] at e ⊢; exact t3 e, w3 (by rw [hkd] at e; exact e)⟩)⟩ (by exact Qu rfl ⟨rfl, rfl, rfl, rfl, by simp only [Int.natCast_add]; rfl, trivial⟩)
  · have hk3 : 3 ≤ d.length := by omega
    have hx : ∀ (wv b : Int), 1 ≤ wv → wv ≤ 3 → 0 ≤ b → b ≤ 1048576 → ∃ se, Ok Tryz.prog 12 [rssC (xF 4 0 d), wrC (wk wv), intC b] (.fr (tupT [cnC ⟨wk wv, se, max 0 ((hereF wv d + othF wv d : Nat) - b), (hereF wv d + othF wv d : Nat)⟩, intC 0])) := fun wv b h1 h2 h3 h4 => by
      obtain ⟨se, e⟩ := hd.cnt hk3 (by omega) h1 h2 h3 h4
      have := Count_ok (xF 4 0 d) (by rw [xF_len]; omega) (wk wv) b
      rw [e] at this
      exact ⟨se, this⟩
    have hxd := fun j hj => xF_getD 4 d 0 j hj
    have hxl := xF_len 4 d 0
    have hyd := sec_getD d
    have hyl : (d.map (·.2)).length = d.length := List.length_map ..
    generalize xF 4 0 d = x at hx hxd hxl ⊢
    generalize d.map (·.2) = y at hyd hyl ⊢
    (refine Qo (Qx (Qy (Qy (Qq fun K hK => ?_)))); refine Qv rfl rfl rfl ?_; refine Qj (hK _ _ (Qx (Q2 ?_))); clear hK K)
    refine Z4 1 _ rfl (Za _ _) XW ?_
    refine Z4 2 _ rfl (Xc _ _) XW ?_
    refine Xz (α := Nat) (fun i => i ≤ 3) (fun i => [(4, .ct (adsC paT)), (5, .ct (rssC x)), (6, .ct (intsC y)), (11, .ct (intC ((i : Int) + 1)))]) (fun _ => [(0, .box 78 (codes B0 p1))]) (fun i => 3 - i) 0 (by decide) (by exact Qu rfl ⟨rfl, rfl, rfl, rfl, trivial⟩) ?_
    intro i hi
    try dsimp only at hi ⊢
    obtain ⟨wv, hwv⟩ : ∃ wv : Int, wv = (i : Int) + 1 := ⟨_, rfl⟩
    rw [← hwv]
    (refine Qy (Qy (Qq fun K hK => ?_)); refine Qz rfl rfl rfl ?_; refine Qk ileq rfl rfl rfl rfl ?_; refine Qj (hK _ _ (Qx ?_)); clear hK K)
    refine Q1 rfl (fun h2 => ?_) (fun h2 => ?_)
    · (refine Q0 (Qx (Qy (Q2 (Qy (Qq fun K hK => ?_))))); refine Qz rfl rfl rfl ?_; refine Qz rfl rfl rfl ?_; refine Qk (isub (by omega) (by omega)) rfl rfl rfl rfl ?_)
      refine Qm rfl rfl rfl (by with_reducible exact sAdrs) (by omega) (adrs_at (by omega) (by show wv - 1 < 3; omega)) rfl ?_
      rw [paT_at (by omega) h2]
      refine Xx rfl rfl rfl (by with_reducible exact Qh) rfl ?_
      refine Qn rfl (by with_reducible exact bWire) rfl (.one rfl rfl rfl rfl .nil) rfl ?_
      refine Qi 1 rfl rfl (by with_reducible exact zvWire) rfl rfl rfl ?_
      refine Qb 2 rfl rfl rfl rfl rfl (by with_reducible exact szWire) rfl rfl ?_
      (refine Qj (hK _ _ (Qx (Qy (Qy ?_)))); clear hK K; refine Qq (fun K hK => ?_); refine Qz rfl rfl rfl ?_; refine Qk igtr rfl rfl rfl rfl ?_; refine Qj (hK _ _ (Qx ?_)); clear hK K)
      refine Zf (α := Unit) (fun _ => True) (fun _ => [(4, .ct (adsC paT)), (5, .ct (rssC x)), (6, .ct (intsC y)), (11, .ct (intC wv)), (12, .own 1)]) (fun _ => [(1, .box 37 (wrCs (wk wv))), (0, .box 78 (codes B0 p1))]) (fun _ _ => ?_) (fun KN hM => ?_)
      rotate_left
      · refine Q1 rfl (fun g => ?_) (fun g => ?_)
        · (refine Qq (fun K hK => ?_); refine Qz rfl rfl rfl ?_; refine Qz rfl rfl rfl ?_; refine Qk (isub (by omega) (by omega)) rfl rfl rfl rfl ?_)
          refine Qm rfl rfl rfl (by with_reducible exact sAdrs) (by omega) (adrs_at (by omega) (by show wv - 2 < 3; omega)) rfl ?_
          rw [show wv - 2 = wv - 1 - 1 by omega, paT_at (by omega) (by omega)]
          refine Xx rfl rfl rfl (by with_reducible exact Qh) rfl ?_
          (refine QY rfl rfl rfl (by with_reducible first | exact fTk0 | exact fTk1 | exact fTk2 | exact fWr0 | exact fWr1 | exact X6 | exact X7 | exact Xt | exact fStm1 | exact fCn0 | exact fCn1 | exact fCn2 | exact fCn3 | exact fCs0 | exact fCs1) rfl ?_; refine Zx rfl rfl rfl rfl rfl (by with_reducible first | exact zInt | exact zAddr | exact zClaims) (Nat.le_of_ble_eq_true rfl) ?_; refine Qj (hK _ _ ?_); clear hK K)
          exact Xq hM () trivial (Qu rfl ⟨rfl, rfl, rfl, rfl, rfl, trivial⟩)
        · have h1 : wk wv = (0, adN wv) := by rw [show wv = 1 by omega]; rfl
          rw [h1] at hM
          (refine Q0 ?_)
          exact Xq hM () trivial (Qu rfl ⟨rfl, rfl, rfl, rfl, rfl, trivial⟩)
      (refine Qy (Qq fun K hK => ?_); refine Qv rfl rfl rfl ?_; refine Qv rfl rfl rfl ?_; refine Qj (hK _ _ (Qx (Qy (Qy ?_)))); clear hK K; refine Qq (fun K hK => ?_); refine Qz rfl rfl rfl ?_; refine Qd rfl rfl (by with_reducible exact sRes.und) (List.length_map ..) rfl ?_; refine Qz rfl rfl rfl ?_; refine Qj (hK _ _ (Qx (Q2 ?_))); clear hK K)
      rw [hxl]
      refine Xz (α := Nat) (fun j => j ≤ d.length)
        (fun j => [(4, .ct (adsC paT)), (5, .ct (rssC x)), (6, .ct (intsC y)), (11, .ct (intC wv)), (12, .own 1), (13, .ct (intC (hereF wv (d.take j)))), (14, .ct (intC (othF wv (d.take j)))), (93, .ct (rssC x)), (94, .ct (intC d.length)), (95, .ct (intC j))])
        (fun _ => [(1, .box 37 (wrCs (wk wv))), (0, .box 78 (codes B0 p1))]) (fun j => d.length - j) 0 (Nat.zero_le _) (by exact Qu rfl ⟨rfl, rfl, rfl, rfl, rfl, rfl, rfl, rfl, rfl, rfl, trivial⟩) ?_
      intro j hj
      try dsimp only at hj ⊢
      (refine Qy (Qq fun K hK => ?_); refine Qk ilss rfl rfl rfl rfl ?_; refine Qj (hK _ _ (Qx (Qy ?_))); clear hK K)
      refine Q1 rfl (fun h3 => ?_) (fun h3 => ?_)
      · have e2 : (j : Int).toNat = j := Int.toNat_natCast j
        have s1 := hereF_step (w := wv) (d := d) (i := j) (by omega)
        have s2 := othF_step (w := wv) (d := d) (i := j) (by omega)
        have b1 := hereF_le wv (d.take j)
        have b2 := othF_le wv (d.take j)
        have b3 : (d.take j).length ≤ d.length := by rw [List.length_take]; omega
        have e3 := hxd j (by omega)
        have e4 := hyd j (by omega)
        generalize d.getD j (0, 0) = c at s1 s2 e3 e4
        generalize hereF wv (d.take j) = he at s1 b1 ⊢
        generalize othF wv (d.take j) = ot at s2 b2 ⊢
        (refine Q0 (Qx (Qy (Q2 (Qy (Qq fun K hK => ?_))))); refine Qz rfl rfl rfl ?_; refine Qv rfl rfl rfl ?_; refine Qj (hK _ _ (Qx (Qy (Qy ?_)))); clear hK K; refine Qq (fun K hK => ?_); refine Qz rfl rfl rfl ?_; refine Qz rfl rfl rfl ?_; refine Qm rfl rfl rfl (by with_reducible exact sRes) (by omega) (rss_at (by omega) (by omega)) rfl ?_)
        rw [e2, e3]
        refine Ops.fldF rfl rfl (by with_reducible exact fS7) rfl ?_
        refine Xx (c := intC c.1) rfl rfl rfl (by with_reducible exact lInt) rfl ?_
        (refine Qz rfl rfl rfl ?_; refine Qk ilss rfl rfl rfl rfl ?_; refine Qz rfl rfl rfl ?_)
        refine Qc 105 rfl (fun g1 => ?_) (fun g1 => ?_)
        · rw [if_neg (by simp [hereP, show ¬ wv ≤ c.1 by omega]), Nat.add_zero] at s1
          rw [if_neg (by simp [othP, show ¬ wv ≤ c.1 by omega]), Nat.add_zero] at s2
          (refine Qw rfl rfl rfl ?_; refine Qw rfl rfl rfl ?_; refine Qw rfl rfl rfl ?_; refine Qw rfl rfl rfl ?_; refine Qw rfl rfl rfl ?_; refine QK rfl rfl rfl rfl ?_; refine Qj (hK _ _ (Qx (Qt rfl (Qo (Qx ?_))))); clear hK K; refine Qq (fun K hK => ?_); refine Qk (iadd (by omega) (by omega)) rfl rfl rfl rfl ?_; refine Qz rfl rfl rfl ?_; refine Qj (hK _ _ (Q4 ?_)); clear hK K)
          refine Q9 (j + 1) (by omega) (by omega) (by rw [s1, s2]; exact Qu rfl ⟨rfl, rfl, rfl, rfl, rfl, rfl, rfl, rfl, rfl, by simp only [Int.natCast_add]; rfl, trivial⟩)
        (refine Qz rfl rfl rfl ?_; refine Qz rfl rfl rfl ?_; refine Qm rfl rfl rfl (by with_reducible exact sInts) (by omega) (XV (by omega) (by omega)) rfl ?_; refine Xx rfl rfl rfl (by with_reducible first | exact lInt | exact lClaims) rfl ?_; refine Qk ieql rfl rfl rfl rfl ?_; refine Q6 rfl rfl rfl rfl ?_; refine Qj (hK _ _ (Qx ?_)); clear hK K)
        rw [e2, e4]
        refine Q1 rfl (fun g2 => ?_) (fun g2 => ?_)
        · rw [if_neg (by simp [hereP, g2]), Nat.add_zero] at s1
          rw [if_neg (by simp [othP, g2]), Nat.add_zero] at s2
          (refine Qo (Qx (Qq fun K hK => ?_)); refine Qk (iadd (by omega) (by omega)) rfl rfl rfl rfl ?_; refine Qz rfl rfl rfl ?_; refine Qj (hK _ _ (Q4 ?_)); clear hK K)
          refine Q9 (j + 1) (by omega) (by omega) (by rw [s1, s2]; exact Qu rfl ⟨rfl, rfl, rfl, rfl, rfl, rfl, rfl, rfl, rfl, by simp only [Int.natCast_add]; rfl, trivial⟩)
        (refine Q0 (Qx (Qy (Qq fun K hK => ?_))); refine Qz rfl rfl rfl ?_; refine Qz rfl rfl rfl ?_; refine Qm rfl rfl rfl (by with_reducible exact sInts) (by omega) (XV (by omega) (by omega)) rfl ?_; refine Xx rfl rfl rfl (by with_reducible first | exact lInt | exact lClaims) rfl ?_; refine Qz rfl rfl rfl ?_; refine Qk ieql rfl rfl rfl rfl ?_; refine Qj (hK _ _ (Qx ?_)); clear hK K)
        rw [e2, e4]
        refine Q1 rfl (fun g3 => ?_) (fun g3 => ?_)
        · rw [if_pos (by simp [hereP, g2, g3]; omega)] at s1
          rw [if_neg (by simp [othP, g3]), Nat.add_zero] at s2
          (refine Qq (fun K hK => ?_); refine Qz rfl rfl rfl ?_; refine Qk (iadd (by omega) (by omega)) rfl rfl rfl rfl ?_; refine Qv rfl rfl rfl ?_; refine Qj (hK _ _ (Qx ?_)); clear hK K; refine Qq (fun K hK => ?_); refine Qk (iadd (by omega) (by omega)) rfl rfl rfl rfl ?_; refine Qz rfl rfl rfl ?_; refine Qj (hK _ _ (Q4 ?_)); clear hK K)
          refine Q9 (j + 1) (by omega) (by omega) (by rw [s1, s2]; exact Qu rfl ⟨rfl, rfl, rfl, rfl, rfl, by simp only [Int.natCast_add]; rfl, rfl, rfl, rfl, by simp only [Int.natCast_add]; rfl, trivial⟩)
        · rw [if_neg (by simp [hereP, g3]), Nat.add_zero] at s1
          rw [if_pos (by simp [othP, g2, g3]; omega)] at s2
          (refine Qq (fun K hK => ?_); refine Qz rfl rfl rfl ?_; refine Qk (iadd (by omega) (by omega)) rfl rfl rfl rfl ?_; refine Qv rfl rfl rfl ?_; refine Qj (hK _ _ (Qx ?_)); clear hK K; refine Qq (fun K hK => ?_); refine Qk (iadd (by omega) (by omega)) rfl rfl rfl rfl ?_; refine Qz rfl rfl rfl ?_; refine Qj (hK _ _ (Q4 ?_)); clear hK K)
          refine Q9 (j + 1) (by omega) (by omega) (by rw [s1, s2]; exact Qu rfl ⟨rfl, rfl, rfl, rfl, rfl, rfl, by simp only [Int.natCast_add]; rfl, rfl, rfl, by simp only [Int.natCast_add]; rfl, trivial⟩)
      · have hj' : j = d.length := by omega
        rw [hj', List.take_length]
        have b1 := hereF_le wv d
        have b2 := othF_le wv d
        have hC := fun b h3 h4 => hx wv b (by omega) h2 h3 h4
        generalize hereF wv d = he at b1 hC ⊢
        generalize othF wv d = ot at b2 hC ⊢
        (refine Qo (Qx (Qy (Qq fun K hK => ?_))); refine Qz rfl rfl rfl ?_; refine Qv rfl rfl rfl ?_; refine Qj (hK _ _ (Qx (Q2 ?_))); clear hK K)
        refine Xz (α := Nat) (fun b => b ≤ 3)
          (fun b => [(4, .ct (adsC paT)), (5, .ct (rssC x)), (6, .ct (intsC y)), (11, .ct (intC wv)), (12, .own 1), (13, .ct (intC he)), (14, .ct (intC ot)), (16, .ct (intC ((ot : Int) + b)))])
          (fun _ => [(1, .box 37 (wrCs (wk wv))), (0, .box 78 (codes B0 p1))]) (fun b => 3 - b) 0 (Nat.zero_le _) (by exact Qu rfl ⟨rfl, rfl, rfl, rfl, rfl, rfl, rfl, rfl, trivial⟩) ?_
        intro b hb3
        try dsimp only at hb3 ⊢
        (refine Qy (Qy (Qq fun K hK => ?_)); refine Qz rfl rfl rfl ?_; refine Qz rfl rfl rfl ?_; refine Qk (iadd (by omega) (by omega)) rfl rfl rfl rfl ?_; refine Qk ilss rfl rfl rfl rfl ?_; refine Qj (hK _ _ (Qx ?_)); clear hK K)
        refine Q1 rfl (fun g1 => ?_) (fun g1 => ?_)
        · obtain ⟨se, hC⟩ := hC ((ot : Int) + b) (by omega) (by omega)
          (refine Q0 (Qx (Qy (Q2 (Qy (Qq fun K hK => ?_))))); refine Qz rfl rfl rfl ?_; refine Q8 (n := 2) rfl rfl rfl rfl rfl (by with_reducible first | exact lTrav | exact lWire | exact lCs) rfl ?_; refine Qz rfl rfl rfl ?_)
          refine QZ goCount hC rfl rfl rfl rfl ?_
          (refine Qz rfl rfl rfl ?_; refine Qa rfl rfl rfl rfl ?_; refine Qa rfl rfl rfl rfl ?_; refine Qi 2 rfl rfl (by with_reducible first | exact zvStm | exact zvCn) rfl rfl rfl ?_; refine Qb 5 rfl rfl rfl rfl rfl (by with_reducible exact szCn) rfl rfl ?_; refine Qv rfl rfl rfl ?_; refine Qj (hK _ _ (Qx (Qy ?_))); clear hK K; refine Qq (fun K hK => ?_); refine Qz rfl rfl rfl ?_; refine Qk ineq rfl rfl rfl rfl ?_; refine Qz rfl rfl rfl ?_; refine Qz rfl rfl rfl ?_; refine QY rfl rfl rfl (by with_reducible first | exact fTk0 | exact fTk1 | exact fTk2 | exact fWr0 | exact fWr1 | exact X6 | exact X7 | exact Xt | exact fStm1 | exact fCn0 | exact fCn1 | exact fCn2 | exact fCn3 | exact fCs0 | exact fCs1) rfl ?_; refine QJ rfl rfl rfl rfl rfl (by with_reducible first | exact lInt | exact Qh | exact Qf | exact lRess) rfl ?_; refine Qk ilss rfl rfl rfl rfl ?_; refine Q6 rfl rfl rfl rfl ?_; refine Qz rfl rfl rfl ?_)
          have hlo : max 0 (((he + ot : Nat) : Int) - ((ot : Int) + b)) ≤ he := by rw [Int.max_def]; split <;> omega
          refine Qc 145 rfl (fun g2 => absurd g2 (by dsimp only; omega)) (fun g2 => ?_)
          (refine Qz rfl rfl rfl ?_; refine QY rfl rfl rfl (by with_reducible first | exact fTk0 | exact fTk1 | exact fTk2 | exact fWr0 | exact fWr1 | exact X6 | exact X7 | exact Xt | exact fStm1 | exact fCn0 | exact fCn1 | exact fCn2 | exact fCn3 | exact fCs0 | exact fCs1) rfl ?_; refine QJ rfl rfl rfl rfl rfl (by with_reducible first | exact lInt | exact Qh | exact Qf | exact lRess) rfl ?_; refine Qk igtr rfl rfl rfl rfl ?_; refine Q6 rfl rfl rfl rfl ?_; refine Qj (hK _ _ (Qx ?_)); clear hK K)
          refine Q1 rfl (fun g3 => absurd g3 (by dsimp only; omega)) (fun g3 => ?_)
          (refine Q0 (Qx (Qq fun K hK => ?_)); refine Qz rfl rfl rfl ?_; refine Qk (iadd (by omega) (by omega)) rfl rfl rfl rfl ?_; refine Qv rfl rfl rfl ?_; refine Qj (hK _ _ (Q4 ?_)); clear hK K)
          refine Xj 2 ?_
          refine Q9 (b + 1) (by omega) (by omega) (by exact Qu rfl ⟨rfl, rfl, rfl, rfl, rfl, rfl, rfl, by simp only [Int.natCast_add, ← Int.add_assoc]; rfl, trivial⟩)
        · (refine Qo (Qx (Qq fun K hK => ?_)); refine Qz rfl rfl rfl ?_; refine Qk (iadd (by omega) (by omega)) rfl rfl rfl rfl ?_; refine Qv rfl rfl rfl ?_; refine Qj (hK _ _ (Q4 ?_)); clear hK K)
          refine Xj 1 ?_
          refine Q9 (i + 1) (by omega) (by omega) (by exact Qu rfl ⟨rfl, rfl, rfl, by rw [hwv]; simp only [Int.natCast_add]; rfl, trivial⟩)
    · (refine Qo (Qx (Qy (Qq fun K hK => ?_))); refine Qv rfl rfl rfl ?_; refine Qj (hK _ _ (Qx (QU ?_))); clear hK K)
      refine QW [_] rfl (QQ rfl QX) rfl rfl
end Go.Proofs.YtlkdkbdgnjcopaaGreat
namespace Go.Proofs.YtlkdkbdgnjcopaaGreat.lossTruth
open Go.ChangeShapes Go.WideShapes Go.ChangeAt Go.RowKit
open Go.ChangeMaps (open_string shut_string)
set_option linter.unusedVariables false
theorem own : ownKnob Tryz.prog.godebug = none := by kernel_rfl
theorem laidOut : laidOutB Tryz.prog = true := by kernel_rfl
def IsRow (k : IntKind) (w : World) (a : Option Addr) (len cap : Nat) (zs : List Int) : Prop :=
  (a = none ∧ len = 0 ∧ cap = 0 ∧ zs = []) ∨
  ∃ x, a = some x ∧ len ≤ cap ∧ cap ≤ maxLen ∧ zs.length = cap ∧ (∀ i, i < zs.length → w.cell? (x.add i) = some (.int k (zs.getD i 0))) ∧ ∀ n ∈ zs, (Lit.int k n).wf = true
open Go.Own in
theorem bytes_in {w : World} {a : Option Addr} {len cap : Nat} {zs : List Int} (h : IsRow .u8 w a len cap zs) : (bytesC (zs.take len)).p (fun _ => True) w (.slice a len cap) := by
  rcases h with ⟨rfl, rfl, rfl, rfl⟩ | ⟨x, rfl, hl, hm, hz, hc, _⟩
  · exact nil_is 1 _ w
  · have hlen : (zs.take len).length = len := by rw [List.length_take]; omega
    refine ⟨some x, cap, by rw [List.length_map, hlen], by rw [List.length_map, hlen]; exact hl, hm, fun e he => by obtain ⟨b, _, rfl⟩ := List.mem_map.1 he; rfl, fun hne => ?_⟩
    have hpos : 0 < len := by
      rcases Nat.eq_zero_or_pos len with h0 | h0
      · subst h0; exact absurd rfl hne
      · exact h0
    have h0 := hc 0 (by omega)
    obtain ⟨b, o, sp⟩ := x
    have hsp : sp = none ∧ b < w.heap.size := by
      simp only [Addr.add, if_true, World.cell?] at h0
      cases e : w.heap[b]? with
      | none => rw [e] at h0; cases h0
      | some ob =>
        rw [e] at h0
        cases ob with
        | cells c t r =>
          refine ⟨?_, Xn e⟩
          cases sp with
          | none => rfl
          | some q => simp at h0
        | _ => cases h0
    obtain ⟨rfl, hb⟩ := hsp
    refine ⟨b, o, rfl, trivial, hb, (zs.take len).map (Value.int .u8), ?_, fun i u hu => ?_⟩
    · rw [flat_one (fun b => CT.ex (Value.int .u8 b))]
      have key : ∀ l : List Int, cells (fun _ => True) w (l.map fun b => CT.ex (Value.int .u8 b)) (l.map (Value.int .u8)) := fun l => by
        induction l with
        | nil => trivial
        | cons y l ih => exact ⟨rfl, ih⟩
      exact key _
    · rw [List.getElem?_map] at hu
      cases e : (zs.take len)[i]? with
      | none => rw [e] at hu; cases hu
      | some n =>
        rw [e] at hu
        injection hu with hu
        have hi : i < (zs.take len).length := (List.getElem?_eq_some_iff.1 e).1
        have h1 := hc i (by omega)
        have h2 : zs.getD i 0 = n := by
          rw [List.getElem?_take, if_pos (by omega)] at e
          rw [List.getD_eq_getElem?_getD, e]; rfl
        have h3 : (⟨b, o, none⟩ : Addr).add i = ⟨b, o + i, none⟩ := by
          unfold Addr.add
          split
          · rename_i h; subst h; rfl
          · rfl
        rw [h3, h2] at h1
        rw [← hu]; exact h1
theorem bytes_range {w : World} {a : Option Addr} {len cap : Nat} {zs : List Int} (h : IsRow .u8 w a len cap zs) : ∀ b ∈ zs.take len, 0 ≤ b ∧ b < 256 := fun b hb => by
  have hm := List.mem_of_mem_take hb
  rcases h with ⟨_, _, _, rfl⟩ | ⟨x, _, _, _, _, _, hw⟩
  · cases hm
  · have := hw b hm
    simp only [Lit.wf, Bool.and_eq_true, decide_eq_true_eq] at this
    have h1 : IntKind.u8.min = 0 := by decide
    have h2 : IntKind.u8.max = 255 := by decide
    omega
theorem walk (a0 : Option Addr) (len0 cap0 : Nat) (z0 : List Int) (w : World) (w0 : IsRow .u8 w a0 len0 cap0 z0) :
    Calls Tryz.prog 3 #[.slice a0 len0 cap0] w fun e w' => e = .returned (.bool true) ∧ Below w.heap.size w w' := by
  refine (LossTruth_ok (z0.take len0) (bytes_range w0) (fun _ => True) w [.slice a0 len0 cap0] (fun _ _ => trivial) ⟨bytes_in w0, trivial⟩).mono ?_
  rintro e w' ⟨v, rfl, hv, hb⟩
  have hv : v = .bool true := hv
  subst hv
  exact ⟨rfl, hb.kit⟩
set_option maxRecDepth 100000 in
theorem lifted (os : Os) (started : os.Started) (H : Type) (enc : TypeId × Value → H) :
    ReturnsInHanded {} Tryz.checked os 3 .any (Rows.lossTruthSpec.pre6 enc Tryz.prog Tryz.f3 Rows.lossTruthRow.domain false) (Rows.lossTruthSpec.post enc Tryz.prog Tryz.f3 false true false false) := by
  refine returnsInHanded_of_change (C := Tryz.checked) own started (by kernel_rfl) Tryz.func3
    (ChangeSpec.witness6 (enc := enc) (C := Tryz.checked) false ⟨#[], #[.slice none 0 0], []⟩ 8 (by kernel_rfl) (by kernel_rfl) (by kernel_rfl) (by kernel_rfl)) ?_
  intro W base args ds gs before hval0 hW hcnd _
  have hval : ∀ (j : Nat) t v, Tryz.f3.params[j]? = some t → args[j]? = some v → Value.okWide Tryz.prog W .any base t v := hval0
  have hW' := hW
  obtain ⟨p, q, hA0, hV, rfl, hfz, hnd⟩ := hW
  have hA : DataW.TrodAll enc Tryz.prog W 0 (fun _ => true) true Tryz.f3.params.toList args.toList ds p := hA0
  rw [Tryz.params3] at hA hval
  obtain ⟨v0, vs0, d0, ds0, p0, q0, hargs, rfl, rfl, h0, r0⟩ := trodAll_cons hA
  obtain ⟨rfl, rfl, rfl⟩ := trodAll_nil r0
  obtain rfl : args = #[v0] := by cases args; simp_all
  obtain ⟨rfl, rfl⟩ := trodVars_none hV
  obtain ⟨a0, len0, cap0, rfl⟩ := okWide_slice Tryz.underlying22 (hval 0 22 v0 rfl rfl)
  have k0 := h0
  have lt0 : ∀ x ∈ p0, x.block < W.heap.size := by obtain ⟨m, hm⟩ := k0; exact DataW.trod_lt m _ _ _ hm
  obtain ⟨z0, w0⟩ : ∃ zs, IsRow .u8 W a0 len0 cap0 zs := by
    obtain ⟨fuel, hf⟩ := h0
    rcases open_ints Tryz.underlying22 Tryz.underlying5 (by kernel_rfl) hf with ⟨hcs, _⟩ | ⟨x, l, c, zs, hcs, _, hl, hm, hz, _, hcell, hwz⟩
    · simp [Value.cells] at hcs
      obtain ⟨rfl, rfl, rfl⟩ := hcs
      exact ⟨[], .inl ⟨rfl, rfl, rfl, rfl⟩⟩
    · simp [Value.cells] at hcs
      obtain ⟨rfl, rfl, rfl⟩ := hcs
      exact ⟨zs, .inr ⟨_, rfl, hl, hm, by simpa using hz, hcell, hwz⟩⟩
  clear hA0 hval0
  refine (walk a0 len0 cap0 z0 W w0).mono fun e W' ⟨he, bel⟩ => ?_
  subst he
  exact ⟨_, rfl, _, _, _, [], _, [], hW', trodAll_mk1 (shut_bool Tryz.underlying4 _), (trodAll_cons_mk (Below.trod laidOut (by kernel_rfl) (of_decide_eq_true (by kernel_rfl)) k0 bel lt0) trodAll_mk0), rfl, bel.frame _, fun h => by cases h⟩
theorem over : Rows.lossTruthRow.holds Tryz.pinned (OpenSpec.ofChange Rows.lossTruthSpec) :=
  OpenClaim.holds_of_wide 3 Tryz.f3 rfl rfl rfl rfl rfl rfl rfl ⟨rfl, rfl, rfl, rfl, rfl⟩ rfl rfl rfl rfl rfl (by kernel_rfl) Tryz.func3 (by kernel_rfl)
    (of_decide_eq_true (by kernel_rfl)) (by unfold Func.isWrapper; first | (rw [if_pos (by decide +kernel)]; kernel_rfl) | (rw [if_neg (by decide +kernel)]; exact ⟨rfl, rfl⟩))
    (fun os started H enc _ => lifted os started H enc)
theorem proved : Rows.LossTruthSaid := over
#print axioms proved
end Go.Proofs.YtlkdkbdgnjcopaaGreat.lossTruth
