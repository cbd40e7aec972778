/- The proof that LossHolds holds for every input, without conditions: part 5 of 5. -/
import Derived.Test.YtlkdkbdgnjcopaaGreatZ4
import Derived.ProofKit
import Derived.OpenShut
import Derived.ShutString
import Derived.ChangeOld
import Derived.DataElems
import Derived.Test.YtlkdkbdgnjcopaaGreatRows
namespace Go.Proofs.YtlkdkbdgnjcopaaGreat
open Go.Own Go.Limbs
attribute [local irreducible] Go.Own.Fin Ok Ops St
theorem rOrder_ok (x y : Int) : Ok Tryz.prog 171 [intC x, intC y] (intC (cmpI x y)) := by
  refine Ok.enter Tryz.func171 J _ Tryz.ntmps171 J ?_
  intro S w; refine Qw (Qx fun K hK => ?_); refine Qy J J J (Qj (hK _ _ (Qz (Qw (Qw ?_))))); clear hK K; refine Qx (fun K hK => ?_); refine Qq J J J (Qq J J J (Qk ilss J J J J (Qj (hK _ _ (Qz ?_))))); clear hK K; refine Q2 J (fun h => ?_) (fun h => ?_)
  · refine Qw (Qx fun K hK => ?_); refine Qy J J J (Qj (hK _ _ (Qz (Q0 (QJ ?_))))); clear hK K; refine QU [_] rfl (Qu J QQ) (by rw [Xo, if_pos h]; rfl) J
  · refine Q1 (Qz (Qw (Qw (Qx fun K hK => ?_)))); refine Qq J J J (Qq J J J (Qk igtr J J J J (Qj (hK _ _ (Qz ?_))))); clear hK K; refine Q2 J (fun h2 => ?_) (fun h2 => ?_)
    · refine Qw (Qx fun K hK => ?_); refine Qy J J J (Qj (hK _ _ (Qz (Q0 (QJ ?_))))); clear hK K; refine QU [_] rfl (Qu J QQ) (by rw [Xo, if_neg h, if_pos h2]; rfl) J
    · refine Q1 (Qz (Qw (Qx fun K hK => ?_))); refine Qy J J J (Qj (hK _ _ (Qz (Q0 ?_)))); clear hK K; refine QU [_] rfl (Qu J QQ) (by rw [Xo, if_neg h, if_neg h2]; rfl) J
theorem gorOrder : InGo Tryz.prog 171 := InGo.of Tryz.func171 (by kernel_rfl) (by kernel_rfl)
theorem rTrim_ok (xs : List Int) (hl : xs.length < 4611686018427387904) : Ok Tryz.prog 136 [intsC xs] (intsC (trimL xs)) := by
  refine Ok.enter Tryz.func136 J _ Tryz.ntmps136 J ?_
  intro S w; refine Qw (Qx fun K hK => ?_); refine Qy J J J (Qj (hK _ _ (Qz (Qw (Q7 ?_))))); clear hK K
  refine Xy (α := List Int) (fun ys => trimL ys = trimL xs ∧ ys.length ≤ xs.length) (fun ys => [(0, .ct (intsC ys))]) (fun _ => []) (fun ys => ys.length) xs ⟨rfl, Nat.le_refl _⟩ (Entails.sub ⟨rfl, trivial⟩) ?_
  intro ys ⟨hy, hle⟩; refine Qw (Qw (Qx fun K hK => ?_)); refine Qq J J J (Qc J J sNat.und (List.length_map ..) J (Qk igtr J J J J (Qq J J J (Q6 6 J (fun h => ?_) (fun h => ?_)))))
  · have e1 : ((ys.length : Int) - 1).toNat = ys.length - 1 := by omega
    refine Qq J J J (Qq J J J (Qc J J sNat.und (List.length_map ..) J (Qk (isub (by omega) (by omega)) J J J J ?_)))
    refine Qo J J J sNat (by omega) (X8 (by omega) (by omega)) J ?_
    refine XJ J J J lInt J (Qk ieql J J J J (QZ J J J J (Qj (hK _ _ (Qz ?_))))); clear hK K; refine Q2 J (fun h2 => ?_) (fun h2 => ?_)
    · rw [e1] at h2; refine Q1 (Qz (Q7 (Qx fun K hK => ?_))); refine Qq J J J (Qq J J J (Qc J J sNat.und (List.length_map ..) J (Qk (isub (by omega) (by omega)) J J J J ?_)))
      refine Ops.cutHi J J J sNat (by omega) (by simp) J ?_
      rw [← List.map_take]; refine Qy J J J (Qj (hK _ _ (Qb (Q5 ?_)))); clear hK K; refine Q9 (ys.take ((ys.length : Int) - 1).toNat) (by simp; omega) ⟨?_, by simp; omega⟩ (Entails.sub ⟨rfl, trivial⟩); rw [e1, ← hy]; exact trim_last (by omega) h2
    · rw [e1] at h2; refine Xq (Qz (Qw (Qx fun K hK => ?_))); refine Qq J J J (Qy J J J (Qj (hK _ _ (Qz (Q0 ?_))))); clear hK K; refine QU [_] rfl (Qu J QQ) (by rw [← hy, trim_done (fun _ => h2)]; rfl) J
  · refine Qv J J J (Qv J J J (Qv J J J (Qv J J J (Qv J J J (Qv J J J (Qv J J J (QW J J J J (Qj (hK _ _ (Qz (Xv J (Xq (Qz (Qw ?_)))))))))))))); clear hK K; refine Qx (fun K hK => ?_); refine Qq J J J (Qy J J J (Qj (hK _ _ (Qz (Q0 ?_))))); clear hK K; refine QU [_] rfl (Qu J QQ) (by rw [← hy, trim_done (fun h3 => absurd h3 (by omega))]; rfl) J
theorem gorTrim : InGo Tryz.prog 136 := InGo.of Tryz.func136 (by kernel_rfl) (by kernel_rfl)
set_option maxHeartbeats 2000000 in
theorem rCompare_ok (a b : Nat) (ha : (limbs a).length < 4611686018427387904) (hb : (limbs b).length < 4611686018427387904) : Ok Tryz.prog 133 [natC a, natC b] (intC (cmpI a b)) := by
  refine Ok.enter Tryz.func133 J _ Tryz.ntmps133 J ?_
  intro S w; refine Qw (Qx fun K hK => ?_); refine Qy J J J (Qj (hK _ _ (Qz (Qw (Qw ?_))))); clear hK K; refine Qx (fun K hK => ?_); refine Qq J J J (Qc J J sNat.und (List.length_map ..) J (Qq J J J (Qc J J sNat.und (List.length_map ..) J (Qk ineq J J J J (Qj (hK _ _ (Qz ?_))))))); clear hK K; refine Q2 J (fun h => ?_) (fun h => ?_)
  · have e : cmpI ((limbs a).length : Int) ((limbs b).length : Int) = cmpI (a : Int) (b : Int) := by
      rcases Nat.lt_trichotomy (limbs a).length (limbs b).length with h1 | h1 | h1
      · have := lt_of_len h1; rw [Xo, Xo, if_pos (by omega), if_pos (by omega)]
      · omega
      · have := lt_of_len h1; rw [Xo, Xo, if_neg (by omega), if_pos (by omega), if_neg (by omega), if_pos (by omega)]
    refine Qw (Qx fun K hK => ?_); refine Qq J J J (Qc J J sNat.und (List.length_map ..) J (Qq J J J (Qc J J sNat.und (List.length_map ..) J (QK gorOrder (rOrder_ok _ _) J J J J (Qy J J J (Qj (hK _ _ (Qz (Q0 (QJ ?_)))))))))); clear hK K; refine QU [_] rfl (Qu J QQ) (by rw [← e]; rfl) J
  · have hl : (limbs a).length = (limbs b).length := by omega
    clear h; refine Q1 (Qz (Qw (Qw (Qx fun K hK => ?_)))); refine Qq J J J (Qc J J sNat.und (List.length_map ..) J (Qk (isub (by omega) (by omega)) J J J J ?_)); refine Qy J J J (Qj (hK _ _ (Qz (Q7 ?_)))); clear hK K
    refine Xy (α := Nat) (fun k => k ≤ (limbs a).length ∧ pre (limbs a) k - pre (limbs b) k = (a : Int) - b)
      (fun k => [(0, .ct (natC a)), (1, .ct (natC b)), (5, .ct (intC ((k : Int) - 1)))]) (fun _ => []) (fun k => k) (limbs a).length ⟨Nat.le_refl _, ?_⟩ (by exact QX J ⟨rfl, rfl, rfl, trivial⟩) ?_
    · have e1 := val_eq_pre a; have e2 := val_eq_pre b; rw [← hl] at e2; rw [e1, e2]
    intro k ⟨hk, hv⟩; dsimp only; refine Qw (Qw (Qx fun K hK => ?_)); refine Qq J J J (Qk igeq J J J J (Qj (hK _ _ (Qz ?_)))); clear hK K; refine Q2 J (fun h => ?_) (fun h => ?_)
    · obtain ⟨q, rfl⟩ : ∃ q, k = q + 1 := ⟨k - 1, by omega⟩
      have e1 : (((q + 1 : Nat) : Int) - 1) = (q : Int) := by omega
      have e2 : (q : Int).toNat = q := Int.toNat_natCast q; rw [e1]; refine Q1 (Qz (Qw (Q7 (Qw ?_)))); refine XY mixed 9 (.p 0 (.p 1 (.p 2 (.p 4 (.p 5 (.p 6 (.f 3 (.f 7 (.p 8 .done))))))))) (by kernel_rfl) (fun K hK => ?_); refine Qq J J J (Qq J J J (Qo J J J sNat (by omega) (X8 (by omega) (by omega)) J ?_)); refine Qq J J J (Qq J J J (Qo J J J sNat (by omega) (X8 (by omega) (by omega)) J ?_)); refine XJ J J J lInt J (XJ J J J lInt J (Qk ineq J J J J (Qj (hK _ _ (Qz ?_))))); clear hK K; refine Q2 J (fun h2 => ?_) (fun h2 => ?_)
      · rw [e2] at h2
        have e : cmpI ((limbs a).getD q 0) ((limbs b).getD q 0) = cmpI (a : Int) (b : Int) := by
          rcases Int.lt_or_gt_of_ne h2 with h3 | h3
          · have := pre_decides (Xn a) (Xn b) h3; rw [Xo, Xo, if_pos h3, if_pos (by omega)]
          · have := pre_decides (Xn b) (Xn a) h3; rw [Xo, Xo, if_neg (by omega), if_pos h3, if_neg (by omega), if_pos (by omega)]
        refine Qw (XY mixed 10 (.p 0 (.p 1 (.p 2 (.p 4 (.p 5 (.p 6 (.f 3 (.f 7 (.m 8 (.p 9 .done)))))))))) (by kernel_rfl) (fun K hK => ?_)); refine Qq J J J (Qq J J J (Qo J J J sNat (by omega) (X8 (by omega) (by omega)) J ?_)); refine Qq J J J (Qq J J J (Qo J J J sNat (by omega) (X8 (by omega) (by omega)) J ?_)); refine XJ J J J lInt J (XJ J J J lInt J (QK gorOrder (rOrder_ok _ _) J J J J ?_)); rw [e2]; refine Qy J J J (Qj (hK _ _ (Qz (Q0 (Q3 (QJ (QJ (Q3 (QJ ?_))))))))); clear hK K; refine QU [_] rfl (Qu J QQ) (by rw [← e]; rfl) J
      · rw [e2] at h2; refine Q1 (Qz (Qx fun K hK => ?_)); refine Qq J J J (Qk (isub (by omega) (by omega)) J J J J ?_); refine Qy J J J (Qj (hK _ _ (Q5 ?_))); clear hK K; refine Q9 q (by omega) ⟨by omega, ?_⟩ (by exact QX J ⟨rfl, rfl, rfl, trivial⟩); rw [Xr, Xr] at hv; have : (limbs a).getD q 0 = (limbs b).getD q 0 := Classical.not_not.1 h2; rw [this] at hv; omega
    · have hk0 : k = 0 := by omega
      subst hk0; rw [Zb, Zb] at hv; refine Xq (Qz (Qw (Qx fun K hK => ?_))); refine Qy J J J (Qj (hK _ _ (Qz (Q0 ?_)))); clear hK K; refine QU [_] rfl (Qu J QQ) (by rw [Xo, if_neg (by omega), if_neg (by omega)]; rfl) J
theorem gorCompare : InGo Tryz.prog 133 := InGo.of Tryz.func133 (by kernel_rfl) (by kernel_rfl)
theorem YJ (xs : List Int) (i : Nat) : Ok Tryz.prog 170 [intsC xs, intC i] (intC (xs.getD i 0)) := by
  refine Ok.enter Tryz.func170 J _ Tryz.ntmps170 J ?_
  intro S w; refine Qw (Qx fun K hK => ?_); refine Qy J J J (Qj (hK _ _ (Qz (Qw (Qw ?_))))); clear hK K; refine Qx (fun K hK => ?_); refine Qq J J J (Qq J J J (Qc J J sNat.und (List.length_map ..) J (Qk ilss J J J J (Qj (hK _ _ (Qz ?_)))))); clear hK K; refine Q2 J (fun h => ?_) (fun h => ?_)
  · have e2 : (i : Int).toNat = i := Int.toNat_natCast i; refine Qw (Qx fun K hK => ?_); refine Qq J J J (Qq J J J (Qo J J J sNat (by omega) (X8 (by omega) (by omega)) J ?_)); refine XJ J J J lInt J (Qy J J J (Qj (hK _ _ (Qz (Q0 (QJ ?_)))))); clear hK K; rw [e2]; skip; refine QU [_] rfl (Qu J QQ) J J
  · refine Q1 (Qz (Qw (Qx fun K hK => ?_))); refine Qy J J J (Qj (hK _ _ (Qz (Q0 ?_)))); clear hK K; refine QU [_] rfl (Qu J QQ) (by rw [List.getD_eq_getElem?_getD, List.getElem?_eq_none (by omega)]; rfl) J
theorem gorlimb : InGo Tryz.prog 170 := InGo.of Tryz.func170 (by kernel_rfl) (by kernel_rfl)
theorem limbs_top {n : Nat} (h : 0 < (limbs n).length) : (limbs n).getD ((limbs n).length - 1) 0 ≠ 0 := fun h0 => by
  have h1 := trim_last h h0
  rw [trim_of_limbs] at h1
  have h2 := trim_len ((limbs n).take ((limbs n).length - 1))
  rw [h1] at h2
  simp at h2; omega
theorem getD_past {xs : List Int} {i : Nat} (h : xs.length ≤ i) : xs.getD i 0 = 0 := by
  rw [List.getD_eq_getElem?_getD, List.getElem?_eq_none (by omega)]; rfl
set_option maxHeartbeats 2000000 in
theorem rPlus_ok (a b : Nat) (ha : (limbs a).length ≤ 1000000) (hb : (limbs b).length ≤ 1000000) : Ok Tryz.prog 131 [natC a, natC b] (natC (a + b)) := by
  refine Ok.enter Tryz.func131 J _ Tryz.ntmps131 J ?_
  intro S w; refine Qw (Qx fun K hK => ?_); refine Qy J J J (Qj (hK _ _ (Qz (Qw ?_)))); clear hK K; refine Qx (fun K hK => ?_); refine Qy J J J (Qj (hK _ _ (Qz (Qw ?_)))); clear hK K; refine Qx (fun K hK => ?_); refine Qy J J J (Qj (hK _ _ (Qz (Qw (Qw ?_))))); clear hK K; refine Qx (fun K hK => ?_); refine Qy J J J (Qj (hK _ _ (Qz (Q7 ?_)))); clear hK K
  refine Zq 5 0 3 1 J J J ?_
  skip
  refine Xy (α := Nat × List Int × Int) (fun s => s.2.1.length = s.1 ∧ OKL s.2.1 ∧ 0 ≤ s.2.2 ∧ s.2.2 ≤ 1 ∧ (s.1 ≤ max (limbs a).length (limbs b).length ∨ s.2.2 = 0) ∧ s.1 ≤ max (limbs a).length (limbs b).length + 1 ∧ val s.2.1 + s.2.2 * BB ^ s.1 = pre (limbs a) s.1 + pre (limbs b) s.1 ∧
      (max (limbs a).length (limbs b).length ≤ s.1 → s.2.2 = 0 → trimL s.2.1 = s.2.1))
    (fun s => [(0, .ct (natC a)), (1, .ct (natC b)), (5, .own 0), (6, .ct (intC s.2.2)), (7, .ct (intC s.1))]) (fun s => [(0, .row 3 1 (ints s.2.1))])
    (fun s => 2 * (max (limbs a).length (limbs b).length - s.1) + s.2.2.toNat) (0, [], 0) ⟨rfl, OKL.nil, by decide, by decide, .inr J, Nat.zero_le _, by simp [val, Zb], fun _ _ => rfl⟩ (by exact QX J ⟨rfl, rfl, rfl, rfl, rfl, trivial⟩) ?_
  rintro ⟨i, zs, c⟩ ⟨hz, hok, hc0, hc1, hor, hi, hv, ht⟩
  dsimp only at hz hok hc0 hc1 hor hi hv ht ⊢; have b1 := (Xn a).get i; have b2 := (Xn b).get i; have t1 := limbs_top (n := a); have t2 := limbs_top (n := b); have p1 := getD_past (xs := limbs a) (i := i); have p2 := getD_past (xs := limbs b) (i := i); simp only [BB] at b1 b2
  have step : ((i : Int) < (limbs a).length ∨ (i : Int) < (limbs b).length ∨ 0 < c) →
      (2 * (max (limbs a).length (limbs b).length - (i + 1)) + ((((limbs a).getD i 0 + (limbs b).getD i 0 + c) / 1073741824).toNat) < 2 * (max (limbs a).length (limbs b).length - i) + c.toNat) ∧
      ((zs ++ [((limbs a).getD i 0 + (limbs b).getD i 0 + c) % 1073741824]).length = i + 1 ∧ OKL (zs ++ [((limbs a).getD i 0 + (limbs b).getD i 0 + c) % 1073741824]) ∧ 0 ≤ ((limbs a).getD i 0 + (limbs b).getD i 0 + c) / 1073741824 ∧ ((limbs a).getD i 0 + (limbs b).getD i 0 + c) / 1073741824 ≤ 1 ∧ (i + 1 ≤ max (limbs a).length (limbs b).length ∨ ((limbs a).getD i 0 + (limbs b).getD i 0 + c) / 1073741824 = 0) ∧ i + 1 ≤ max (limbs a).length (limbs b).length + 1 ∧ val (zs ++ [((limbs a).getD i 0 + (limbs b).getD i 0 + c) % 1073741824]) + ((limbs a).getD i 0 + (limbs b).getD i 0 + c) / 1073741824 * BB ^ (i + 1) = pre (limbs a) (i + 1) + pre (limbs b) (i + 1) ∧
      (max (limbs a).length (limbs b).length ≤ i + 1 → ((limbs a).getD i 0 + (limbs b).getD i 0 + c) / 1073741824 = 0 → trimL (zs ++ [((limbs a).getD i 0 + (limbs b).getD i 0 + c) % 1073741824]) = zs ++ [((limbs a).getD i 0 + (limbs b).getD i 0 + c) % 1073741824])) := by
    intro hgo; refine ⟨by omega, by simp [hz], hok.append (OKL.cons (by simp only [BB]; omega) OKL.nil), by omega, by omega, by omega, by omega, ?_, ?_⟩
    · rw [val_append, hz, Xr, Xr]; have e := Int.mul_ediv_add_emod ((limbs a).getD i 0 + (limbs b).getD i 0 + c) 1073741824; clear t1 t2 p1 p2 ht hor hgo; simp only [val, BB] at *; generalize ((limbs a).getD i 0 + (limbs b).getD i 0 + c) / 1073741824 = q at *; generalize ((limbs a).getD i 0 + (limbs b).getD i 0 + c) % 1073741824 = m at *
      grind
    · intro hm hcz
      refine trim_id ?_
      have hx : (limbs a).getD i 0 + (limbs b).getD i 0 + c ≠ 0 := by
        rcases hgo with hg | hg | hg
        · rcases Nat.lt_or_ge (i + 1) (limbs a).length with h5 | h5
          · omega
          · have e5 : (limbs a).length - 1 = i := by omega
            rw [e5] at t1; have := t1 (by omega); omega
        · rcases Nat.lt_or_ge (i + 1) (limbs b).length with h5 | h5
          · omega
          · have e5 : (limbs b).length - 1 = i := by omega
            rw [e5] at t2; have := t2 (by omega); omega
        · omega
      omega
  have fin : ¬ ((i : Int) < (limbs a).length ∨ (i : Int) < (limbs b).length ∨ 0 < c) → natC (a + b) = intsC zs := by
    intro hgo
    have hc : c = 0 := by omega
    have h1 := ht (by omega) hc; rw [hc, Int.zero_mul, Yq (by omega), Yq (by omega), ZW, ZW] at hv; rw [show intsC zs = intsC (trimL zs) by rw [h1], Z7 hok, show (val zs).toNat = a + b by omega]
  have e2 : (i : Int).toNat = i := Int.toNat_natCast i; clear ht hor t1 t2 p1 p2; refine Qw (Qw (Qx fun K hK => ?_)); refine Qq J J J (Qq J J J (Qc J J sNat.und (List.length_map ..) J (Qk ilss J J J J (Qq J J J (Q6 13 J (fun g1 => ?_) (fun g1 => ?_))))))
  · have st := step (.inl g1); clear step fin; refine Qv J J J (Qv J J J (Qv J J J (Qv J J J (QZ J J J J (Qq J J J (Qv J J J (Qv J J J (QZ J J J J (Qj (hK _ _ (Qz (Qn J (Q1 (Qz (Qw (Q7 (Qw ?_))))))))))))))))); clear hK K; refine Qx (fun K hK => ?_); refine Qq J J J (Qq J J J (QK gorlimb (YJ (limbs a) i) J J J J (Qq J J J (Qq J J J (QK gorlimb (YJ (limbs b) i) J J J J (Qk (iadd (by omega) (by omega)) J J J J ?_)))))); refine Qq J J J (Qk (iadd (by omega) (by omega)) J J J J ?_); refine Qy J J J (Qj (hK _ _ (Qz (Qw ?_)))); clear hK K; refine Qx (fun K hK => ?_); refine Qq J J J (Qq J J J (Qk (irem (by omega) (by omega)) J J J J ?_)); refine Zx J J sNat J J J (Qs zs.length (ints (zs ++ [((limbs a).getD i 0 + (limbs b).getD i 0 + c) % 1073741824])) J J J J sNat (by simp [ints]) J (by omega) (by omega) (by simp [ints]) J ?_); refine Qy J J J (Qj (hK _ _ (Qz ?_))); clear hK K; refine Qx (fun K hK => ?_); refine Qq J J J (Qk (iquo (by omega) (by omega) (by omega)) J J J J ?_); refine Qy J J J (Qj (hK _ _ (Qz ?_))); clear hK K; refine Qx (fun K hK => ?_); refine Qq J J J (Qk (iadd (by omega) (by omega)) J J J J ?_); refine Qy J J J (Qj (hK _ _ (Q5 ?_)))
    clear hK K; refine Q9 (i + 1, zs ++ [((limbs a).getD i 0 + (limbs b).getD i 0 + c) % 1073741824], ((limbs a).getD i 0 + (limbs b).getD i 0 + c) / 1073741824) st.1 st.2 (by exact QX J ⟨rfl, rfl, rfl, rfl, by simp only [Int.natCast_add]; rfl, trivial⟩)
  · refine Qq J J J (Qq J J J (Qc J J sNat.und (List.length_map ..) J (Qk ilss J J J J (QW J J J J (Qq J J J (Q6 19 J (fun g2 => ?_) (fun g2 => ?_)))))))
    · have st := step (.inr (.inl g2)); clear step fin; refine Qv J J J (Qv J J J (QZ J J J J (Qj (hK _ _ (Qz (Qn J (Q1 (Qz (Qw (Q7 (Qw ?_))))))))))); clear hK K; refine Qx (fun K hK => ?_); refine Qq J J J (Qq J J J (QK gorlimb (YJ (limbs a) i) J J J J (Qq J J J (Qq J J J (QK gorlimb (YJ (limbs b) i) J J J J (Qk (iadd (by omega) (by omega)) J J J J ?_)))))); refine Qq J J J (Qk (iadd (by omega) (by omega)) J J J J ?_); refine Qy J J J (Qj (hK _ _ (Qz (Qw ?_)))); clear hK K; refine Qx (fun K hK => ?_); refine Qq J J J (Qq J J J (Qk (irem (by omega) (by omega)) J J J J ?_)); refine Zx J J sNat J J J (Qs zs.length (ints (zs ++ [((limbs a).getD i 0 + (limbs b).getD i 0 + c) % 1073741824])) J J J J sNat (by simp [ints]) J (by omega) (by omega) (by simp [ints]) J ?_); refine Qy J J J (Qj (hK _ _ (Qz ?_))); clear hK K; refine Qx (fun K hK => ?_); refine Qq J J J (Qk (iquo (by omega) (by omega) (by omega)) J J J J ?_); refine Qy J J J (Qj (hK _ _ (Qz ?_))); clear hK K; refine Qx (fun K hK => ?_); refine Qq J J J (Qk (iadd (by omega) (by omega)) J J J J ?_); refine Qy J J J (Qj (hK _ _ (Q5 ?_))); clear hK K
      refine Q9 (i + 1, zs ++ [((limbs a).getD i 0 + (limbs b).getD i 0 + c) % 1073741824], ((limbs a).getD i 0 + (limbs b).getD i 0 + c) / 1073741824) st.1 st.2 (by exact QX J ⟨rfl, rfl, rfl, rfl, by simp only [Int.natCast_add]; rfl, trivial⟩)
    · refine Qq J J J (Qk igtr J J J J (QW J J J J (Qj (hK _ _ (Qz ?_))))); clear hK K; refine Q2 J (fun g3 => ?_) (fun g3 => ?_)
      · have st := step (.inr (.inr g3)); clear step fin; refine Q1 (Qz (Qw (Q7 (Qw (Qx fun K hK => ?_))))); refine Qq J J J (Qq J J J (QK gorlimb (YJ (limbs a) i) J J J J (Qq J J J (Qq J J J (QK gorlimb (YJ (limbs b) i) J J J J (Qk (iadd (by omega) (by omega)) J J J J ?_)))))); refine Qq J J J (Qk (iadd (by omega) (by omega)) J J J J ?_); refine Qy J J J (Qj (hK _ _ (Qz (Qw ?_)))); clear hK K; refine Qx (fun K hK => ?_); refine Qq J J J (Qq J J J (Qk (irem (by omega) (by omega)) J J J J ?_)); refine Zx J J sNat J J J (Qs zs.length (ints (zs ++ [((limbs a).getD i 0 + (limbs b).getD i 0 + c) % 1073741824])) J J J J sNat (by simp [ints]) J (by omega) (by omega) (by simp [ints]) J ?_); refine Qy J J J (Qj (hK _ _ (Qz ?_))); clear hK K; refine Qx (fun K hK => ?_); refine Qq J J J (Qk (iquo (by omega) (by omega) (by omega)) J J J J ?_); refine Qy J J J (Qj (hK _ _ (Qz ?_))); clear hK K; refine Qx (fun K hK => ?_); refine Qq J J J (Qk (iadd (by omega) (by omega)) J J J J ?_); refine Qy J J J (Qj (hK _ _ (Q5 ?_))); clear hK K
        refine Q9 (i + 1, zs ++ [((limbs a).getD i 0 + (limbs b).getD i 0 + c) % 1073741824], ((limbs a).getD i 0 + (limbs b).getD i 0 + c) / 1073741824) st.1 st.2 (by exact QX J ⟨rfl, rfl, rfl, rfl, by simp only [Int.natCast_add]; rfl, trivial⟩)
      · have fe := fin (by omega); refine St.freeze 0 _ J (Zy _ _) X6 (Xq (Qz (Qw (Qx fun K hK => ?_)))); refine Qq J J J (Qy J J J (Qj (hK _ _ (Qz (Q0 ?_))))); clear hK K; refine QU [_] rfl (Qu J QQ) (by rw [fe]; rfl) J
theorem gorPlus : InGo Tryz.prog 131 := InGo.of Tryz.func131 (by kernel_rfl) (by kernel_rfl)
theorem val_sub_done {a b : Nat} {zs : List Int} {c : Int} (hok : OKL zs) (hzl : zs.length = (limbs a).length) (hb : b ≤ a) (hc0 : 0 ≤ c) (hc1 : c ≤ 1)
    (hv : val zs - c * BB ^ (limbs a).length = pre (limbs a) (limbs a).length - pre (limbs b) (limbs a).length) : trimL zs = limbs (a - b) := by
  have hlb := Xd hb; rw [Z7 hok]; rw [Yq (Nat.le_refl _), Yq hlb, ZW, ZW] at hv; have hp : 0 < BB ^ (limbs a).length := Int.pow_pos (by decide); have h1 := pre_bd hok (limbs a).length; rw [Yq (by omega)] at h1
  have hc : c = 0 := by
    rcases Int.lt_or_le 0 c with hc | hc
    · have : c = 1 := by omega
      subst this; rw [Int.one_mul] at hv; omega
    · omega
  subst hc; rw [Int.zero_mul] at hv
  congr 1; omega
theorem less_step {v c P A B x y d c' K : Int} (h : v - c * P = A - B) (e : x - y - c = d - c' * K) : v + P * d - c' * (P * K) = (A + x * P) - (B + y * P) := by
  have h2 : P * (x - y - c) = P * (d - c' * K) := by rw [e]
  grind
set_option maxHeartbeats 2000000 in
theorem rLess_ok (a b : Nat) (hb : b ≤ a) (hx : (limbs a).length ≤ 1000000) : Ok Tryz.prog 134 [natC a, natC b] (natC (a - b)) := by
  refine Ok.enter Tryz.func134 J _ Tryz.ntmps134 J ?_
  intro S w; refine Qw (Qx fun K hK => ?_); refine Qy J J J (Qj (hK _ _ (Qz (Qw ?_)))); clear hK K; refine Qx (fun K hK => ?_); refine Qy J J J (Qj (hK _ _ (Qz (Qw ?_)))); clear hK K; refine Qx (fun K hK => ?_); refine Qy J J J (Qj (hK _ _ (Qz (Qw (Qw ?_))))); clear hK K; refine Qx (fun K hK => ?_); refine Qy J J J (Qj (hK _ _ (Qz (Q7 ?_)))); clear hK K
  refine Zq 5 0 3 1 J J J ?_
  skip
  refine Xy (α := Nat × List Int × Int) (fun s => s.1 ≤ (limbs a).length ∧ s.2.1.length = s.1 ∧ OKL s.2.1 ∧ 0 ≤ s.2.2 ∧ s.2.2 ≤ 1 ∧ val s.2.1 - s.2.2 * BB ^ s.1 = pre (limbs a) s.1 - pre (limbs b) s.1)
    (fun s => [(0, .ct (natC a)), (1, .ct (natC b)), (5, .own 0), (6, .ct (intC s.2.2)), (7, .ct (intC s.1))])
    (fun s => [(0, .row 3 1 (ints s.2.1))])
    (fun s => (limbs a).length - s.1) (0, [], 0) ⟨Nat.zero_le _, rfl, OKL.nil, by decide, by decide, by simp [val, Zb]⟩ (by exact QX J ⟨rfl, rfl, rfl, rfl, rfl, trivial⟩) ?_
  rintro ⟨i, zs, c⟩ ⟨hi, hz, hok, hc0, hc1, hv⟩
  dsimp only at hi hz hok hc0 hc1 hv ⊢; refine Qw (Qw (Qx fun K hK => ?_)); refine Qq J J J (Qq J J J (Qc J J sNat.und (List.length_map ..) J (Qk ilss J J J J (Qj (hK _ _ (Qz ?_)))))); clear hK K; refine Q2 J (fun h => ?_) (fun h => ?_)
  · have b1 := (Xn a).get i; have b2 := (Xn b).get i; simp only [BB] at b1 b2; have e2 : (i : Int).toNat = i := Int.toNat_natCast i; refine Q1 (Qz (Qw (Q7 (Qw ?_)))); refine XY mixed 11 (.p 0 (.p 1 (.p 2 (.p 4 (.p 5 (.p 8 (.f 3 (.m 6 (.p 7 (.p 9 (.p 10 .done))))))))))) (by kernel_rfl) (fun K hK => ?_); refine Qq J J J (Qq J J J (Qo J J J sNat (by omega) (X8 (by omega) (by omega)) J ?_)); refine Qq J J J (Qq J J J (Qq J J J (XJ J J J lInt J ?_))); rw [e2]; skip; refine QK gorlimb (YJ (limbs b) i) J J J J (Qk (isub (by omega) (by omega)) J J J J ?_)
    refine Qk (isub (by omega) (by omega)) J J J J ?_
    refine Qy J J J (Qj (hK _ _ (Qz (Qw ?_)))); clear hK K; refine Qx (fun K hK => ?_); refine Qy J J J (Qj (hK _ _ (Qz (Qw (Qw ?_))))); clear hK K; refine Qx (fun K hK => ?_); refine Qq J J J (Qk ilss J J J J (Qj (hK _ _ (Qz ?_)))); clear hK K; refine Q2 J (fun h2 => ?_) (fun h2 => ?_)
    · refine Qw (Qx fun K hK => ?_); refine Qq J J J (Qk (iadd (by omega) (by omega)) J J J J ?_); refine Qy J J J (Qj (hK _ _ (Qz ?_))); clear hK K; refine Qx (fun K hK => ?_); refine Qy J J J (Qj (hK _ _ (Qz ?_))); clear hK K; refine Qx (fun K hK => ?_); refine Qq J J J (Qq J J J (Zx J J sNat J J J (Qs zs.length (ints (zs ++ [(limbs a).getD i 0 - (limbs b).getD i 0 - c + 1073741824])) J J J J sNat (by simp [ints]) J (by omega) (by omega) (by simp [ints]) J ?_))); refine Qy J J J (Qj (hK _ _ (Qz ?_))); clear hK K; refine Qx (fun K hK => ?_); refine Qq J J J (Qk (iadd (by omega) (by omega)) J J J J ?_); refine Qy J J J (Qj (hK _ _ (Q5 ?_))); clear hK K; refine Q9 (i + 1, zs ++ [(limbs a).getD i 0 - (limbs b).getD i 0 - c + 1073741824], 1) (by dsimp only; omega) ⟨by dsimp only; omega, by simp [hz], ?_, by show (0 : Int) ≤ 1; decide, by show (1 : Int) ≤ 1; decide, ?_⟩ (by exact QX J ⟨rfl, rfl, rfl, rfl, by simp only [Int.natCast_add]; rfl, trivial⟩)
      all_goals dsimp only
      · exact hok.append (OKL.cons (by simp only [BB]; omega) OKL.nil)
      · rw [val_append, hz, Xr, Xr, Int.pow_succ]; simp only [val, Int.mul_zero, Int.add_zero]; exact less_step hv (by simp only [BB]; omega)
    · refine Q1 (Qz (Qx fun K hK => ?_)); refine Qq J J J (Qq J J J (Zx J J sNat J J J (Qs zs.length (ints (zs ++ [(limbs a).getD i 0 - (limbs b).getD i 0 - c])) J J J J sNat (by simp [ints]) J (by omega) (by omega) (by simp [ints]) J ?_))); refine Qy J J J (Qj (hK _ _ (Qz ?_))); clear hK K; refine Qx (fun K hK => ?_); refine Qq J J J (Qk (iadd (by omega) (by omega)) J J J J ?_); refine Qy J J J (Qj (hK _ _ (Q5 ?_))); clear hK K; refine Q9 (i + 1, zs ++ [(limbs a).getD i 0 - (limbs b).getD i 0 - c], 0) (by dsimp only; omega) ⟨by dsimp only; omega, by simp [hz], ?_, by show (0 : Int) ≤ 0; decide, by show (0 : Int) ≤ 1; decide, ?_⟩ (by exact QX J ⟨rfl, rfl, rfl, rfl, by simp only [Int.natCast_add]; rfl, trivial⟩)
      all_goals dsimp only
      · exact hok.append (OKL.cons (by simp only [BB]; omega) OKL.nil)
      · rw [val_append, hz, Xr, Xr, Int.pow_succ]; simp only [val, Int.mul_zero, Int.add_zero]; exact less_step hv (by simp only [BB]; omega)
  · have hi' : i = (limbs a).length := by omega
    subst hi'; have e4 := val_sub_done hok hz hb hc0 hc1 hv; refine St.freeze 0 _ J (Zy _ _) X6 (Xq (Qz (Qw (Qx fun K hK => ?_)))); refine Qq J J J (QK gorTrim (rTrim_ok zs (by omega)) J J J J ?_); rw [e4]; refine Qy J J J (Qj (hK _ _ (Qz (Q0 ?_)))); clear hK K; refine QU [_] rfl (Qu J QQ) J J
theorem gorLess : InGo Tryz.prog 134 := InGo.of Tryz.func134 (by kernel_rfl) (by kernel_rfl)
set_option maxHeartbeats 2000000 in
theorem rhalf_ok (a : Nat) (hl : (limbs a).length ≤ 1000000) : Ok Tryz.prog 132 [natC a] (natC (a / 2)) := by
  refine Ok.enter Tryz.func132 J _ Tryz.ntmps132 J ?_
  intro S w; refine Qw (Qx fun K hK => ?_); refine Qy J J J (Qj (hK _ _ (Qz (Qw ?_)))); clear hK K; refine Qx (fun K hK => ?_); refine Qq J J J (Qc J J sNat.und (List.length_map ..) J (Ops.make 0 (limbs a).length J J J J sNat (by omega) (by omega) J J J ?_)); rw [ints_made]; refine Qy J J J (Qj (hK _ _ (Qz (Qw ?_)))); clear hK K; refine Qx (fun K hK => ?_); refine Qy J J J (Qj (hK _ _ (Qz (Qw (Qw ?_))))); clear hK K; refine Qx (fun K hK => ?_); refine Qq J J J (Qc J J sNat.und (List.length_map ..) J (Qk (isub (by omega) (by omega)) J J J J ?_)); refine Qy J J J (Qj (hK _ _ (Qz (Q7 ?_)))); clear hK K
  refine Xy (α := Nat × List Int × Int) (fun s => s.1 ≤ (limbs a).length ∧ s.2.1.length = (limbs a).length ∧ OKL s.2.1 ∧ (∀ j, j < s.1 → s.2.1.getD j 0 = 0) ∧ 0 ≤ s.2.2 ∧ s.2.2 < 2 ∧ val s.2.1 * 2 + s.2.2 * BB ^ s.1 = val (limbs a) - pre (limbs a) s.1)
    (fun s => [(0, .ct (natC a)), (3, .own 0), (4, .ct (intC s.2.2)), (5, .ct (intC ((s.1 : Int) - 1)))])
    (fun s => [(0, .row 3 1 (ints s.2.1))]) (fun s => s.1) ((limbs a).length, List.replicate (limbs a).length 0, 0) ⟨Nat.le_refl _, by simp, OKL.zeros _, ?_, Int.le_refl _, by show (0 : Int) < 2; decide, ?_⟩ (by exact QX J ⟨rfl, rfl, rfl, rfl, trivial⟩) ?_
  · intro j _; simp [List.getD_eq_getElem?_getD, List.getElem?_replicate]; split <;> rfl
  · dsimp only; rw [val_zeros, Yq (Nat.le_refl _)]; simp
  rintro ⟨q, zs, rest⟩ ⟨hq, hzl, hok, hz, hr0, hr1, hv⟩
  dsimp only at hq hzl hok hz hr0 hr1 hv ⊢; refine Qw (Qw (Qx fun K hK => ?_)); refine Qq J J J (Qk igeq J J J J (Qj (hK _ _ (Qz ?_)))); clear hK K; refine Q2 J (fun h => ?_) (fun h => ?_)
  · obtain ⟨i, rfl⟩ : ∃ i, q = i + 1 := ⟨q - 1, by omega⟩
    have e1 : (((i + 1 : Nat) : Int) - 1) = (i : Int) := by omega
    have e2 : (i : Int).toNat = i := Int.toNat_natCast i
    have e3 : (i : Int).toNat * 1 = i := by omega
    have bx := (Xn a).get i; simp only [BB] at bx; rw [e1]; refine Q1 (Qz (Qw (Q7 (Qw (Qx fun K hK => ?_))))); refine Qq J J J (Qq J J J (Qo J J J sNat (by omega) (X8 (by omega) (by omega)) J ?_)); refine XJ J J J lInt J (Qq J J J (Qk (imul (by omega) (by omega)) J J J J ?_)); rw [e2]
    refine Qk (iadd (by omega) (by omega)) J J J J ?_
    refine Qy J J J (Qj (hK _ _ (Qz (Qw ?_)))); clear hK K; refine Qx (fun K hK => ?_); refine Qq J J J (Qq J J J (Qq J J J (Qk (iquo (by omega) (by omega) (by omega)) J J J J ?_))); rw [show (limbs a).getD i 0 + rest * 1073741824 = rest * 1073741824 + (limbs a).getD i 0 from Int.add_comm _ _]; skip
    refine ZZ (limbs a).length J J J (by simp [ints]; omega) J sNat (by omega) (by omega) J ?_
    rw [e3]
    refine Xc J J J J J zInt (by simp [Ent.cs, ints]; omega) ?_
    simp only [Ent.setc, ints_set]; refine Qj (hK _ _ (Qz ?_)); clear hK K; refine Qx (fun K hK => ?_); refine Qq J J J (Qk (irem (by omega) (by omega)) J J J J ?_); refine Qy J J J (Qj (hK _ _ (Qz ?_))); clear hK K; refine Qx (fun K hK => ?_); refine Qq J J J (Qk (isub (by omega) (by omega)) J J J J ?_); refine Qy J J J (Qj (hK _ _ (Q5 ?_))); clear hK K; refine Q9 (i, zs.set i ((rest * 1073741824 + (limbs a).getD i 0) / 2), (rest * 1073741824 + (limbs a).getD i 0) % 2) (by dsimp only; omega) ⟨by dsimp only; omega, by simp [hzl], ?_, ?_, by dsimp only; omega, by dsimp only; omega, ?_⟩ (by exact QX J ⟨rfl, rfl, rfl, rfl, trivial⟩)
    all_goals dsimp only
    · exact hok.set _ (by simp only [BB]; omega)
    · intro j hj; rw [getD_set (by omega), if_neg (by omega)]; exact hz j (by omega)
    · rw [val_set (by omega), hz i (by omega), Int.sub_zero]; exact top_step hv
  · have hq0 : q = 0 := by omega
    subst hq0
    have e4 : val zs * 2 + rest = a := by rw [Zb, ZW] at hv; simpa using hv
    have e5 : (val zs).toNat = a / 2 := by omega
    refine St.freeze 0 _ J (Zy _ _) X6 (Xq (Qz (Qw (Qx fun K hK => ?_)))); refine Qq J J J (QK gorTrim (rTrim_ok zs (by omega)) J J J J ?_); rw [Z7 hok, e5]; refine Qy J J J (Qj (hK _ _ (Qz (Q0 ?_)))); clear hK K; refine QU [_] rfl (Qu J QQ) J J
theorem gorhalf : InGo Tryz.prog 132 := InGo.of Tryz.func132 (by kernel_rfl) (by kernel_rfl)
set_option maxHeartbeats 4000000 in
theorem rTimes_ok (a b : Nat) (hx : (limbs a).length + (limbs b).length ≤ 1000000) : Ok Tryz.prog 135 [natC a, natC b] (natC (a * b)) := by
  refine Ok.enter Tryz.func135 Y _ Tryz.ntmps135 Y ?_
  intro S w; refine Qw (Qx fun K hK => ?_); refine Qy Y Y Y (Qj (hK _ _ (Qz (Qw ?_)))); clear hK K; refine Qx (fun K hK => ?_); refine Qq Y Y Y (Qc Y Y sNat.und (List.length_map ..) Y (Qq Y Y Y (Qc Y Y sNat.und (List.length_map ..) Y (Qk (iadd (by omega) (by omega)) Y Y Y Y ?_))))
  refine Ops.make 0 ((limbs a).length + (limbs b).length) Y Y Y (by omega) sNat (by omega) (by omega) Y Y Y ?_
  rw [ints_made]; refine Qy Y Y Y (Qj (hK _ _ (Qz (Qw (Qw ?_))))); clear hK K; refine Qx (fun K hK => ?_); refine Qy Y Y Y (Qj (hK _ _ (Qz (Q7 ?_)))); clear hK K
  refine Xy (α := Nat × List Int) (fun s => s.1 ≤ (limbs a).length ∧ s.2.length = (limbs a).length + (limbs b).length ∧ OKL s.2 ∧ (∀ j, s.1 + (limbs b).length ≤ j → s.2.getD j 0 = 0) ∧ val s.2 = pre (limbs a) s.1 * b)
    (fun s => [(0, .ct (natC a)), (1, .ct (natC b)), (5, .own 0), (6, .ct (intC s.1))])
    (fun s => [(0, .row 3 1 (ints s.2))])
    (fun s => (limbs a).length - s.1) (0, List.replicate ((limbs a).length + (limbs b).length) 0) ⟨Nat.zero_le _, by simp, OKL.zeros _, ?_, ?_⟩ (by exact QX Y ⟨rfl, rfl, rfl, rfl, trivial⟩) ?_
  · intro j _; simp [List.getD_eq_getElem?_getD, List.getElem?_replicate]; split <;> rfl
  · rw [Zb, val_zeros]; simp
  rintro ⟨i, out⟩ ⟨hi, hlen, hok, hz, hv⟩
  dsimp only at hi hlen hok hz hv ⊢; refine Qw (Qw (Qx fun K hK => ?_)); refine Qq Y Y Y (Qq Y Y Y (Qc Y Y sNat.und (List.length_map ..) Y (Qk ilss Y Y Y Y (Qj (hK _ _ (Qz ?_)))))); clear hK K; refine Q2 Y (fun h => ?_) (fun h => ?_)
  · have bx := (Xn a).get i; have eix : (i : Int).toNat = i := Int.toNat_natCast i; refine Q1 (Qz (Qw (Q7 (Qw (Qx fun K hK => ?_))))); refine Qy Y Y Y (Qj (hK _ _ (Qz (Qw ?_)))); clear hK K; refine Qx (fun K hK => ?_); refine Qy Y Y Y (Qj (hK _ _ (Qz (Q7 ?_)))); clear hK K
    refine Xy (α := Nat × List Int × Int) (fun s => (s.1 ≤ (limbs b).length ∨ s.2.2 = 0) ∧ s.1 ≤ (limbs b).length + 1 ∧ s.2.1.length = (limbs a).length + (limbs b).length ∧ OKL s.2.1 ∧ (∀ j, i + (limbs b).length + 1 ≤ j → s.2.1.getD j 0 = 0) ∧ (s.1 ≤ (limbs b).length → s.2.1.getD (i + (limbs b).length) 0 = 0) ∧ 0 ≤ s.2.2 ∧ s.2.2 < BB ∧
        val s.2.1 + s.2.2 * BB ^ (i + s.1) = val out + (limbs a).getD i 0 * pre (limbs b) s.1 * BB ^ i)
      (fun s => [(0, .ct (natC a)), (1, .ct (natC b)), (5, .own 0), (6, .ct (intC i)), (7, .ct (intC s.2.2)), (8, .ct (intC s.1))])
      (fun s => [(0, .row 3 1 (ints s.2.1))])
      (fun s => (limbs b).length + 2 - s.1) (0, out, 0) ⟨.inr Y, Nat.zero_le _, hlen, hok, fun j hj => hz j (by omega), fun _ => hz _ (Nat.le_refl _), Int.le_refl _, by show (0 : Int) < BB; decide, by rw [Zb]; simp⟩ (by exact QX Y ⟨rfl, rfl, rfl, rfl, rfl, rfl, trivial⟩) ?_
    rintro ⟨q, zs, c⟩ ⟨hqc, hq, hzl, hzok, hzz, hzt, hc0, hc1, hzv⟩
    dsimp only at hqc hq hzl hzok hzz hzt hc0 hc1 hzv ⊢
    have by' := (Xn b).get q
    have bz := hzok.get (i + q)
    have bm := mul_bd bx by'
    have hpast := getD_past (xs := limbs b) (i := q); simp only [BB] at bz hc1 bx; have eq1 : (q : Int).toNat = q := Int.toNat_natCast q
    have eiq : ((i : Int) + q).toNat * 1 = i + q := by omega
    have step : q ≤ (limbs b).length →
        ((limbs b).length + 2 - (q + 1) < (limbs b).length + 2 - q) ∧ ((q + 1 ≤ (limbs b).length ∨ (zs.getD (i + q) 0 + (limbs a).getD i 0 * (limbs b).getD q 0 + c) / 1073741824 = 0) ∧ q + 1 ≤ (limbs b).length + 1 ∧ (zs.set (i + q) ((zs.getD (i + q) 0 + (limbs a).getD i 0 * (limbs b).getD q 0 + c) % 1073741824)).length = (limbs a).length + (limbs b).length ∧ OKL (zs.set (i + q) ((zs.getD (i + q) 0 + (limbs a).getD i 0 * (limbs b).getD q 0 + c) % 1073741824)) ∧ (∀ j, i + (limbs b).length + 1 ≤ j → (zs.set (i + q) ((zs.getD (i + q) 0 + (limbs a).getD i 0 * (limbs b).getD q 0 + c) % 1073741824)).getD j 0 = 0) ∧ (q + 1 ≤ (limbs b).length → (zs.set (i + q) ((zs.getD (i + q) 0 + (limbs a).getD i 0 * (limbs b).getD q 0 + c) % 1073741824)).getD (i + (limbs b).length) 0 = 0) ∧ 0 ≤ (zs.getD (i + q) 0 + (limbs a).getD i 0 * (limbs b).getD q 0 + c) / 1073741824 ∧ (zs.getD (i + q) 0 + (limbs a).getD i 0 * (limbs b).getD q 0 + c) / 1073741824 < BB ∧
        val (zs.set (i + q) ((zs.getD (i + q) 0 + (limbs a).getD i 0 * (limbs b).getD q 0 + c) % 1073741824)) + (zs.getD (i + q) 0 + (limbs a).getD i 0 * (limbs b).getD q 0 + c) / 1073741824 * BB ^ (i + (q + 1)) = val out + (limbs a).getD i 0 * pre (limbs b) (q + 1) * BB ^ i) := by
      intro hqb; refine ⟨by omega, ?_, by omega, by simp [hzl], hzok.set _ (by simp only [BB]; omega), ?_, ?_, by omega, by simp only [BB]; omega, ?_⟩
      · rcases Nat.lt_or_ge q (limbs b).length with h5 | h5
        · exact .inl h5
        · have h6 : q = (limbs b).length := by omega
          right; have := hzt hqb; rw [← h6] at this; rw [this, hpast h5, Int.mul_zero]; omega
      · intro j hj; rw [getD_set (by omega), if_neg (by omega)]; exact hzz j hj
      · intro h5; rw [getD_set (by omega), if_neg (by omega)]; exact hzt hqb
      · rw [val_set (by omega), Xr, show i + (q + 1) = (i + q) + 1 by omega, Int.pow_succ, Int.pow_add]; rw [Int.pow_add] at hzv; have e := Int.mul_ediv_add_emod (zs.getD (i + q) 0 + (limbs a).getD i 0 * (limbs b).getD q 0 + c) 1073741824
        clear hpast hzt hzz hqc bm by' bz hz
        simp only [BB] at *; generalize (zs.getD (i + q) 0 + (limbs a).getD i 0 * (limbs b).getD q 0 + c) / 1073741824 = Q at *; generalize (zs.getD (i + q) 0 + (limbs a).getD i 0 * (limbs b).getD q 0 + c) % 1073741824 = M at *; generalize (1073741824 : Int) ^ i = I at *; generalize (1073741824 : Int) ^ q = J at *; generalize zs.getD (i + q) 0 = z at *; generalize (limbs a).getD i 0 = x at *; generalize (limbs b).getD q 0 = y at *; generalize pre (limbs b) q = pb at *; generalize val zs = vz at *; generalize val out = vo at *
        grind
    have fin : ¬ ((q : Int) < (limbs b).length) → ¬ (0 < c) → (i + 1 ≤ (limbs a).length ∧ zs.length = (limbs a).length + (limbs b).length ∧ OKL zs ∧ (∀ j, i + 1 + (limbs b).length ≤ j → zs.getD j 0 = 0) ∧ val zs = pre (limbs a) (i + 1) * b) := by
      intro g1 g2; refine ⟨by omega, hzl, hzok, fun j hj => hzz j (by omega), ?_⟩
      have hc : c = 0 := by omega
      rw [hc, Int.zero_mul, Int.add_zero, Yq (xs := limbs b) (by omega), ZW, hv] at hzv; rw [hzv, Xr]; grind
    refine Qw (Qw (Qx fun K hK => ?_)); refine Qq Y Y Y (Qq Y Y Y (Qc Y Y sNat.und (List.length_map ..) Y (Qk ilss Y Y Y Y (Qq Y Y Y (Q6 26 Y (fun g1 => ?_) (fun g1 => ?_))))))
    · have st := step (by omega); clear step fin; refine Qv Y Y Y (Qv Y Y Y (QZ Y Y Y Y (Qj (hK _ _ (Qz (Qn Y (Q1 (Qz (Qw (Q7 (Qw ?_))))))))))); clear hK K; refine XY mixed 18 (.p 0 (.p 1 (.p 2 (.p 3 (.p 4 (.p 6 (.p 7 (.p 8 (.p 10 (.p 11 (.p 15 (.f 5 (.f 9 (.m 12 (.p 13 (.p 14 (.p 16 (.p 17 .done)))))))))))))))))) (by kernel_rfl) (fun K hK => ?_); refine Qq Y Y Y (Qq Y Y Y (Qq Y Y Y (Qk (iadd (by omega) (by omega)) Y Y Y Y ?_)))
      refine ZZ ((limbs a).length + (limbs b).length) Y Y Y (by simp [ints]; omega) Y sNat (by omega) (by omega) Y ?_
      rw [eiq]; refine Qq Y Y Y (Qq Y Y Y (Qo Y Y Y sNat (by omega) (X8 (by omega) (by omega)) Y ?_)); refine Qq Y Y Y (Qq Y Y Y (Qq Y Y Y ?_)); rw [eix]
      refine QY Y Y Y Y (ints_get (by omega)) lInt Y ?_
      refine XJ Y Y Y lInt Y (QK gorlimb (YJ (limbs b) q) Y Y Y Y (Qk (imul (by omega) (by omega)) Y Y Y Y ?_))
      refine Qk (iadd (by omega) (by omega)) Y Y Y Y ?_
      refine Qk (iadd (by omega) (by omega)) Y Y Y Y ?_
      refine Qy Y Y Y (Qj (hK _ _ (Qz (Qw ?_)))); clear hK K; refine Qx (fun K hK => ?_); refine Qq Y Y Y (Qq Y Y Y (Qq Y Y Y (Qk (iadd (by omega) (by omega)) Y Y Y Y ?_))); refine Qq Y Y Y (Qk (irem (by omega) (by omega)) Y Y Y Y ?_)
      refine ZZ ((limbs a).length + (limbs b).length) Y Y Y (by simp [ints]; omega) Y sNat (by omega) (by omega) Y ?_
      rw [eiq]
      refine Xc Y Y Y Y Y zInt (by simp [Ent.cs, ints]; omega) ?_
      simp only [Ent.setc, ints_set]; refine Qj (hK _ _ (Qz ?_)); clear hK K; refine Qx (fun K hK => ?_); refine Qq Y Y Y (Qk (iquo (by omega) (by omega) (by omega)) Y Y Y Y ?_); refine Qy Y Y Y (Qj (hK _ _ (Qz ?_))); clear hK K; refine Qx (fun K hK => ?_); refine Qq Y Y Y (Qk (iadd (by omega) (by omega)) Y Y Y Y ?_); refine Qy Y Y Y (Qj (hK _ _ (Q5 ?_))); clear hK K; refine Q9 (q + 1, zs.set (i + q) ((zs.getD (i + q) 0 + (limbs a).getD i 0 * (limbs b).getD q 0 + c) % 1073741824), (zs.getD (i + q) 0 + (limbs a).getD i 0 * (limbs b).getD q 0 + c) / 1073741824) st.1 st.2 (by exact QX Y ⟨rfl, rfl, rfl, rfl, rfl, by simp only [Int.natCast_add]; rfl, trivial⟩)
    · refine Qq Y Y Y (Qk igtr Y Y Y Y (QW Y Y Y Y (Qj (hK _ _ (Qz ?_))))); clear hK K; refine Q2 Y (fun g2 => ?_) (fun g2 => ?_)
      · have st := step (by omega); clear step fin; refine Q1 (Qz (Qw (Q7 (Qw ?_)))); refine XY mixed 18 (.p 0 (.p 1 (.p 2 (.p 3 (.p 4 (.p 6 (.p 7 (.p 8 (.p 10 (.p 11 (.p 15 (.f 5 (.f 9 (.m 12 (.p 13 (.p 14 (.p 16 (.p 17 .done)))))))))))))))))) (by kernel_rfl) (fun K hK => ?_); refine Qq Y Y Y (Qq Y Y Y (Qq Y Y Y (Qk (iadd (by omega) (by omega)) Y Y Y Y ?_)))
        refine ZZ ((limbs a).length + (limbs b).length) Y Y Y (by simp [ints]; omega) Y sNat (by omega) (by omega) Y ?_
        rw [eiq]; refine Qq Y Y Y (Qq Y Y Y (Qo Y Y Y sNat (by omega) (X8 (by omega) (by omega)) Y ?_)); refine Qq Y Y Y (Qq Y Y Y (Qq Y Y Y ?_)); rw [eix]
        refine QY Y Y Y Y (ints_get (by omega)) lInt Y ?_
        refine XJ Y Y Y lInt Y (QK gorlimb (YJ (limbs b) q) Y Y Y Y (Qk (imul (by omega) (by omega)) Y Y Y Y ?_))
        refine Qk (iadd (by omega) (by omega)) Y Y Y Y ?_
        refine Qk (iadd (by omega) (by omega)) Y Y Y Y ?_
        refine Qy Y Y Y (Qj (hK _ _ (Qz (Qw ?_)))); clear hK K; refine Qx (fun K hK => ?_); refine Qq Y Y Y (Qq Y Y Y (Qq Y Y Y (Qk (iadd (by omega) (by omega)) Y Y Y Y ?_))); refine Qq Y Y Y (Qk (irem (by omega) (by omega)) Y Y Y Y ?_)
        refine ZZ ((limbs a).length + (limbs b).length) Y Y Y (by simp [ints]; omega) Y sNat (by omega) (by omega) Y ?_
        rw [eiq]
        refine Xc Y Y Y Y Y zInt (by simp [Ent.cs, ints]; omega) ?_
        simp only [Ent.setc, ints_set]; refine Qj (hK _ _ (Qz ?_)); clear hK K; refine Qx (fun K hK => ?_); refine Qq Y Y Y (Qk (iquo (by omega) (by omega) (by omega)) Y Y Y Y ?_); refine Qy Y Y Y (Qj (hK _ _ (Qz ?_))); clear hK K; refine Qx (fun K hK => ?_); refine Qq Y Y Y (Qk (iadd (by omega) (by omega)) Y Y Y Y ?_); refine Qy Y Y Y (Qj (hK _ _ (Q5 ?_))); clear hK K; refine Q9 (q + 1, zs.set (i + q) ((zs.getD (i + q) 0 + (limbs a).getD i 0 * (limbs b).getD q 0 + c) % 1073741824), (zs.getD (i + q) 0 + (limbs a).getD i 0 * (limbs b).getD q 0 + c) / 1073741824) st.1 st.2 (by exact QX Y ⟨rfl, rfl, rfl, rfl, rfl, by simp only [Int.natCast_add]; rfl, trivial⟩)
      · have fe := fin g1 g2; clear step fin; refine Xq (Qz (Qx fun K hK => ?_)); refine Qq Y Y Y (Qk (iadd (by omega) (by omega)) Y Y Y Y ?_); refine Qy Y Y Y (Qj (hK _ _ (Q5 ?_))); clear hK K; refine Q9 (i + 1, zs) (by dsimp only; omega) fe (by exact QX Y ⟨rfl, rfl, rfl, by simp only [Int.natCast_add]; rfl, trivial⟩)
  · have hi' : i = (limbs a).length := by omega
    have e4 : trimL out = limbs (a * b) := by
      rw [Z7 hok, hv, hi', Yq (Nat.le_refl _), ZW]
      congr 1
    refine St.freeze 0 _ Y (Zy _ _) X6 (Xq (Qz (Qw (Qx fun K hK => ?_)))); refine Qq Y Y Y (QK gorTrim (rTrim_ok out (by omega)) Y Y Y Y ?_); rw [e4]; refine Qy Y Y Y (Qj (hK _ _ (Qz (Q0 ?_)))); clear hK K; refine QU [_] rfl (Qu Y QQ) Y Y
theorem gorTimes : InGo Tryz.prog 135 := InGo.of Tryz.func135 (by kernel_rfl) (by kernel_rfl)
theorem uU64 : Tryz.prog.underlying 153 = some (.int .u64) := Tryz.underlying153
theorem uI64 : Tryz.prog.underlying 3 = some (.int .i64) := Tryz.underlying3
abbrev wordC (x : Int) : CT := .ex (.int .u64 x)
set_option maxHeartbeats 2000000 in
theorem rWord_ok (n : Nat) (hn : n < 18446744073709551616) : Ok Tryz.prog 99 [wordC n] (natC n) := by
  refine Ok.enter Tryz.func99 J _ Tryz.ntmps99 J ?_
  intro S w; refine Qw (Qx fun K hK => ?_); refine Qy J J J (Qj (hK _ _ (Qz (Qw ?_)))); clear hK K; refine Qx (fun K hK => ?_); refine Qy J J J (Qj (hK _ _ (Qz (Qw (Q7 ?_))))); clear hK K
  refine Zq 3 0 3 1 J J J ?_
  skip
  refine Xy (α := Nat × List Int) (fun s => s.1 ≤ n ∧ limbs n = s.2 ++ limbs s.1)
    (fun s => [(0, .ct (wordC s.1)), (3, .own 0)]) (fun s => [(0, .row 3 1 (ints s.2))]) (fun s => s.1) (n, []) ⟨Nat.le_refl _, rfl⟩ (by exact QX J ⟨rfl, rfl, trivial⟩) ?_
  rintro ⟨m, zs⟩ ⟨hm, hv⟩
  dsimp only at hm hv ⊢
  have hl : zs.length ≤ 64 := by
    have h1 := congrArg List.length hv; have h2 := XW (n := n) (k := 3) (by omega); simp at h1; omega
  refine Qw (Qw (Qx fun K hK => ?_)); refine Qq J J J (Qk igtr J J J J (Qj (hK _ _ (Qz ?_)))); clear hK K; refine Q2 J (fun h => ?_) (fun h => ?_)
  · refine Q1 (Qz (Qw (Q7 (Qx fun K hK => ?_)))); refine Qq J J J (Qq J J J (Qk (urem (by omega) (by omega)) J J J J ?_))
    refine Z9 J J uU64 uI64 (Yv (by omega) (by omega)) J ?_
    refine Zx J J sNat J J J (Qs zs.length (ints (zs ++ [(m : Int) % 1073741824])) J J J J sNat (by simp [ints]) J (by omega) (by omega) (by simp [ints]) J ?_); refine Qy J J J (Qj (hK _ _ (Qz ?_))); clear hK K; refine Qx (fun K hK => ?_); refine Qq J J J (Qk (uquo (by omega) (by omega) (by omega)) J J J J ?_); refine Qy J J J (Qj (hK _ _ (Q5 ?_))); clear hK K
    refine Q9 (m / 1073741824, zs ++ [(m : Int) % 1073741824]) (by dsimp only; omega) ⟨by dsimp only; omega, ?_⟩ ?_
    all_goals dsimp only
    · rw [hv, limbs_pos (n := m) (by omega)]; simp
    · exact QX J ⟨by rw [Int.natCast_ediv]; rfl, rfl, trivial⟩
  · have : m = 0 := by omega
    subst this; rw [limbs_zero, List.append_nil] at hv; subst hv; refine St.freeze 0 _ J (Zy _ _) X6 (Xq (Qz (Qw (Qx fun K hK => ?_)))); refine Qq J J J (Qy J J J (Qj (hK _ _ (Qz (Q0 ?_))))); clear hK K; refine QU [_] rfl (Qu J QQ) J J
theorem gorWord : InGo Tryz.prog 99 := InGo.of Tryz.func99 (by kernel_rfl) (by kernel_rfl)
theorem cmpI_le {a b : Int} : cmpI a b ≤ 0 ↔ a ≤ b := by unfold cmpI; split <;> (try split) <;> omega
theorem rTimes_one (b m : Nat) (h0 : 0 < m) (h1 : m < 1073741824) (hl : (limbs b).length ≤ 100000) : Ok Tryz.prog 135 [natC b, .fr (sliceT 1 [[intC m]])] (natC (b * m)) := by
  have h := rTimes_ok b m (by rw [Z0 h0 h1]; simp; omega)
  have e : natC m = .fr (sliceT 1 [[intC m]]) := by show intsC (limbs m) = _; rw [Z0 h0 h1]; rfl
  rw [← e]; exact h
theorem split_step {v b r R A p x P d : Int} (K : Int) (hR : R = r * K + x) (hv : v * b + r * (P * K) = A - (p + x * P)) : (v + d * P) * b + (R - b * d) * P = A - p := by
  subst hR; grind
theorem len_lt_mul {R b k : Nat} (h : (limbs b).length ≤ k) (hR : R < b * 1073741824) : (limbs R).length ≤ k + 1 := by
  refine XW ?_
  rw [Nat.pow_succ]; exact Nat.lt_trans hR (Nat.mul_lt_mul_of_pos_right (Xe h) (by decide))
set_option maxHeartbeats 4000000 in
theorem rSplit_ok (a b : Nat) (hb : 0 < b) (la : (limbs a).length ≤ 10000) (lb : (limbs b).length ≤ 10000) : Ok Tryz.prog 98 [natC a, natC b] (.fr (tupT [natC (a / b), natC (a % b)])) := by
  refine Ok.enter Tryz.func98 J _ Tryz.ntmps98 J ?_
  intro S w; refine Qw (Qx fun K hK => ?_); refine Qy J J J (Qy J J J (Qj (hK _ _ (Qz (Qw ?_))))); clear hK K; refine Qx (fun K hK => ?_); refine Qq J J J (Qc J J sNat.und (List.length_map ..) J (Ops.make 0 (limbs a).length J J J J sNat (by omega) (by omega) J J J ?_)); rw [ints_made]; refine Qy J J J (Qj (hK _ _ (Qz (Qw ?_)))); clear hK K; refine Qx (fun K hK => ?_); refine Qy J J J (Qj (hK _ _ (Qz (Qw (Qw ?_))))); clear hK K; refine Qx (fun K hK => ?_); refine Qq J J J (Qc J J sNat.und (List.length_map ..) J (Qk (isub (by omega) (by omega)) J J J J ?_)); refine Qy J J J (Qj (hK _ _ (Qz (Q7 ?_)))); clear hK K
  refine St.asNil 7 1 J ?_
  refine Xy (α := Nat × List Int × Nat) (fun s => s.1 ≤ (limbs a).length ∧ s.2.1.length = (limbs a).length ∧ OKL s.2.1 ∧ (∀ j, j < s.1 → s.2.1.getD j 0 = 0) ∧ s.2.2 < b ∧ val s.2.1 * b + s.2.2 * BB ^ s.1 = val (limbs a) - pre (limbs a) s.1)
    (fun s => [(0, .ct (natC a)), (1, .ct (natC b)), (6, .own 0), (7, .ct (natC s.2.2)), (8, .ct (intC ((s.1 : Int) - 1)))])
    (fun s => [(0, .row 3 1 (ints s.2.1))]) (fun s => s.1) ((limbs a).length, List.replicate (limbs a).length 0, 0) ⟨Nat.le_refl _, by simp, OKL.zeros _, ?_, hb, ?_⟩ (by exact QX J ⟨rfl, rfl, rfl, by rw [natC_zero]; rfl, rfl, trivial⟩) ?_
  · intro j _; simp [List.getD_eq_getElem?_getD, List.getElem?_replicate]; split <;> rfl
  · dsimp only; rw [val_zeros, Yq (Nat.le_refl _)]; simp
  rintro ⟨q, zs, rr⟩ ⟨hq, hzl, hok, hz, hrb, hv⟩
  dsimp only at hq hzl hok hz hrb hv ⊢; refine Qw (Qw (Qx fun K hK => ?_)); refine Qq J J J (Qk igeq J J J J (Qj (hK _ _ (Qz ?_)))); clear hK K; refine Q2 J (fun h => ?_) (fun h => ?_)
  · obtain ⟨i, rfl⟩ : ∃ i, q = i + 1 := ⟨q - 1, by omega⟩
    have e1 : (((i + 1 : Nat) : Int) - 1) = (i : Int) := by omega
    have e2 : (i : Int).toNat = i := Int.toNat_natCast i
    have e3 : (i : Int).toNat * 1 = i := by omega
    have bx := (Xn a).get i; simp only [BB] at bx; obtain ⟨R, hR⟩ : ∃ R : Nat, (R : Int) = rr * 1073741824 + (limbs a).getD i 0 := ⟨((rr : Int) * 1073741824 + (limbs a).getD i 0).toNat, by omega⟩; have lrr : (limbs rr).length ≤ 10000 := Nat.le_trans (Xd (Nat.le_of_lt hrb)) lb
    have eT : trimL ((limbs a).getD i 0 :: limbs rr) = limbs R := by
      rw [Z7 (OKL.cons (by simp only [BB]; omega) (Xn rr))]; simp only [val]; rw [ZW]; congr 1; simp only [BB]; omega
    have hRb : R < b * 1073741824 := by
      have h1 : (rr + 1) * 1073741824 ≤ b * 1073741824 := Nat.mul_le_mul_right _ (by omega); omega
    have lR : (limbs R).length ≤ 10001 := len_lt_mul lb hRb; rw [Xr, Int.pow_succ] at hv; rw [e1]; refine Q1 (Qz (Qw (Q7 (Qw (Qx fun K hK => ?_))))); refine Qq J J J (Qq J J J (Qo J J J sNat (by omega) (X8 (by omega) (by omega)) J ?_))
    refine XJ J J J lInt J ?_
    rw [e2]; refine Ops.lit1E 1 J J sNat J J J J J (Qq J J J (Ops.append 1 (ints ((limbs a).getD i 0 :: limbs rr)) J J J J sNat J ?_ (by simp; omega) (by simp; omega) ?_ J ?_))
    · rw [flat_one]; exact ints_ones _
    · rw [flat_one]; rfl
    refine Xp 1 _ J (Zy _ _) X6 (QK gorTrim (rTrim_ok _ (by simp; omega)) J J J J ?_); rw [eT]; refine Qy J J J (Qj (hK _ _ (Qz (Qw (Qw ?_))))); clear hK K; refine Qx (fun K hK => ?_); refine Qq J J J (Qq J J J (QK gorCompare (rCompare_ok R b (by omega) (by omega)) J J J J ?_)); refine Qk ilss J J J J (Qj (hK _ _ (Qz ?_))); clear hK K; refine Q2 J (fun h2 => ?_) (fun h2 => ?_)
    · rw [cmpI_neg] at h2; refine Xq (Qz (Qx fun K hK => ?_)); refine Qq J J J (Qk (isub (by omega) (by omega)) J J J J ?_); refine Qy J J J (Qj (hK _ _ (Q5 ?_))); clear hK K; refine Q9 (i, zs, R) (by dsimp only; omega) ⟨by dsimp only; omega, hzl, hok, fun j hj => hz j (by dsimp only at hj; omega), by dsimp only; omega, ?_⟩ (by exact QX J ⟨rfl, rfl, rfl, rfl, rfl, trivial⟩); dsimp only; have := split_step (d := 0) BB hR hv
      simpa using this
    · rw [cmpI_neg] at h2; refine Q1 (Qz (Qw (Qx fun K hK => ?_))); refine Qy J J J (Qy J J J (Qj (hK _ _ (Qz (Qw (Q7 ?_)))))); clear hK K
      refine Xy (α := Nat × Nat) (fun s => 1 ≤ s.1 ∧ s.1 ≤ s.2 ∧ s.2 ≤ 1073741823 ∧ b * s.1 ≤ R ∧ R < b * (s.2 + 1))
        (fun s => [(0, .ct (natC a)), (1, .ct (natC b)), (6, .own 0), (7, .ct (natC R)), (8, .ct (intC i)), (9, .ct (intC s.1)), (10, .ct (intC s.2))])
        (fun _ => [(0, .row 3 1 (ints zs))]) (fun s => s.2 - s.1) (1, 1073741823) ⟨Nat.le_refl _, by decide, Nat.le_refl _, by omega, hRb⟩ (by exact QX J ⟨rfl, rfl, rfl, rfl, rfl, rfl, rfl, trivial⟩) ?_
      rintro ⟨lo, hi⟩ ⟨k1, k2, k3, k4, k5⟩
      dsimp only at k1 k2 k3 k4 k5 ⊢; refine Qw (Qw (Qx fun K hK => ?_)); refine Qq J J J (Qq J J J (Qk ilss J J J J (Qj (hK _ _ (Qz ?_))))); clear hK K; refine Q2 J (fun h3 => ?_) (fun h3 => ?_)
      · obtain ⟨m, hm⟩ : ∃ m : Nat, m = (lo + hi + 1) / 2 := ⟨_, rfl⟩
        have em : ((lo : Int) + hi + 1) / 2 = (m : Int) := by omega
        have lbm : (limbs (b * m)).length ≤ 10001 := Nat.le_trans limbs_mul_len (by
          have := XW (n := m) (k := 1) (by omega)
          omega)
        refine Q1 (Qz (Q7 (Qw (Qx fun K hK => ?_)))); refine Qq J J J (Qq J J J (Qk (iadd (by omega) (by omega)) J J J J ?_))
        refine Qk (iadd (by omega) (by omega)) J J J J ?_
        refine Qk (iquo (by omega) (by omega) (by omega)) J J J J ?_
        refine Qy J J J (Qj (hK _ _ (Qz (Qw ?_)))); clear hK K; refine Qx (fun K hK => ?_); refine Qq J J J (Qq J J J ?_); rw [em]; skip; refine Zx J J sNat J J J (QK gorTimes (rTimes_one b m (by omega) (by omega) (by omega)) J J J J ?_); refine Qq J J J (QK gorCompare (rCompare_ok (b * m) R (by omega) (by omega)) J J J J ?_); refine Qk ileq J J J J (Qj (hK _ _ (Qz ?_))); clear hK K; refine Q2 J (fun h4 => ?_) (fun h4 => ?_)
        · rw [cmpI_le] at h4; refine Qx (fun K hK => ?_); refine Qq J J J (Qy J J J (Qj (hK _ _ (Qb (Q5 ?_))))); clear hK K; refine Q9 (m, hi) (by dsimp only; omega) ⟨by dsimp only; omega, by dsimp only; omega, k3, by dsimp only; omega, k5⟩ (by exact QX J ⟨rfl, rfl, rfl, rfl, rfl, rfl, rfl, trivial⟩)
        · rw [cmpI_le] at h4; refine Qx (fun K hK => ?_); refine Qq J J J (Qk (isub (by omega) (by omega)) J J J J ?_); refine Qy J J J (Qj (hK _ _ (Qb (Q5 ?_)))); clear hK K; refine Q9 (lo, m - 1) (by dsimp only; omega) ⟨k1, by dsimp only; omega, by dsimp only; omega, k4, ?_⟩ (by exact QX J ⟨rfl, rfl, rfl, rfl, rfl, rfl, by rw [show ((m - 1 : Nat) : Int) = (m : Int) - 1 by omega]; rfl, trivial⟩); dsimp only; rw [show m - 1 + 1 = m by omega]; omega
      · have h6 : lo = hi := by omega
        subst h6
        have lbm : (limbs (b * lo)).length ≤ 10001 := Nat.le_trans limbs_mul_len (by
          have := XW (n := lo) (k := 1) (by omega)
          omega)
        refine Xq (Qz (Qw (Qx fun K hK => ?_))); refine Qq J J J (Qq J J J (Qq J J J (ZZ (limbs a).length J J J (by simp [ints]; omega) J sNat (by omega) (by omega) J ?_))); rw [e3]
        refine Xc J J J J J zInt (by simp [Ent.cs, ints]; omega) ?_
        simp only [Ent.setc, ints_set]; refine Qj (hK _ _ (Qz ?_)); clear hK K; refine Qx (fun K hK => ?_); refine Qq J J J (Qq J J J (Qq J J J (Zx J J sNat J J J (QK gorTimes (rTimes_one b lo (by omega) (by omega) (by omega)) J J J J ?_))))
        refine QK gorLess (rLess_ok R (b * lo) k4 (by omega)) J J J J ?_
        refine Qy J J J (Qj (hK _ _ (Qz ?_))); clear hK K; refine Qx (fun K hK => ?_); refine Qq J J J (Qk (isub (by omega) (by omega)) J J J J ?_); refine Qy J J J (Qj (hK _ _ (Q5 ?_))); clear hK K; refine Q9 (i, zs.set i (lo : Int), R - b * lo) (by dsimp only; omega) ⟨by dsimp only; omega, by simp [hzl], ?_, ?_, ?_, ?_⟩ (by exact QX J ⟨rfl, rfl, rfl, rfl, rfl, trivial⟩)
        all_goals dsimp only
        · exact hok.set _ (by simp only [BB]; omega)
        · intro j hj; rw [getD_set (by omega), if_neg (by omega)]; exact hz j (by omega)
        · rw [Nat.mul_add] at k5; omega
        · rw [val_set (by omega), hz i (by omega), Int.sub_zero, show ((R - b * lo : Nat) : Int) = (R : Int) - b * lo by rw [Int.natCast_sub k4, Int.natCast_mul]]; exact split_step BB hR hv
  · have hq0 : q = 0 := by omega
    subst hq0
    have e4 : val zs * b + rr = a := by rw [Zb, ZW] at hv; simpa using hv
    have hvz := val_nonneg hok; obtain ⟨Q, hQ⟩ : ∃ Q : Nat, val zs = Q := ⟨(val zs).toNat, by omega⟩; rw [hQ] at e4
    have e4' : a = rr + Q * b := by
      have : ((Q * b + rr : Nat) : Int) = a := by rw [Int.natCast_add, Int.natCast_mul]; exact e4
      omega
    have e5 : a / b = Q ∧ a % b = rr := by
      rw [e4']; constructor
      · rw [Nat.add_mul_div_right _ _ hb, Nat.div_eq_of_lt hrb]; omega
      · rw [Nat.add_mul_mod_self_right, Nat.mod_eq_of_lt hrb]
    refine St.freeze 0 _ J (Zy _ _) X6 (Xq (Qz (Qw (Qx fun K hK => ?_)))); refine Qq J J J (QK gorTrim (rTrim_ok zs (by omega)) J J J J ?_); rw [Z7 hok, hQ, Int.toNat_natCast]; refine Qq J J J (Qy J J J (Qy J J J (Qj (hK _ _ (Qz (Q0 ?_)))))); clear hK K; refine QU [_, _] rfl (Qu J (Qu J QQ)) (by rw [e5.1, e5.2]; rfl) J
theorem gorSplit : InGo Tryz.prog 98 := InGo.of Tryz.func98 (by kernel_rfl) (by kernel_rfl)
theorem limbs_get0 {x : Nat} (h : x ≠ 0) : (limbs x).getD 0 0 = ((x % 1073741824 : Nat) : Int) := by rw [limbs_pos h]; rfl
theorem gcd_half {x y : Nat} (hx : x % 2 = 0) (hy : y % 2 = 1) : Nat.gcd (x / 2) y = Nat.gcd x y := by
  have e : x = 2 * (x / 2) := by omega
  have hc : Nat.Coprime 2 y := by
    unfold Nat.Coprime; rw [Nat.gcd_rec, hy]; rfl
  conv => rhs; rw [e]
  exact (hc.gcd_mul_left_cancel _).symm
theorem gcd_two {x y : Nat} (hx : x % 2 = 0) (hy : y % 2 = 0) : 2 * Nat.gcd (x / 2) (y / 2) = Nat.gcd x y := by
  rw [← Nat.gcd_mul_left, show 2 * (x / 2) = x by omega, show 2 * (y / 2) = y by omega]
theorem gcd_less {x y : Nat} (h : y ≤ x) : Nat.gcd (x - y) y = Nat.gcd x y := by
  conv => rhs; rw [show x = (x - y) + y by omega]
  rw [Nat.gcd_add_self_left]
theorem len_add {x y k : Nat} (h1 : x < 1073741824 ^ k) (h2 : y < 1073741824 ^ k) : (limbs (x + y)).length ≤ k + 1 := by
  refine XW ?_
  rw [Nat.pow_succ]; omega
set_option maxHeartbeats 8000000 in
theorem rGcd_ok (a b : Nat) (la : (limbs a).length ≤ 10000) (lb : (limbs b).length ≤ 10000) : Ok Tryz.prog 97 [natC a, natC b] (natC (Nat.gcd a b)) := by
  refine Ok.enter Tryz.func97 J _ Tryz.ntmps97 J ?_
  intro S w; refine Qw (Qx fun K hK => ?_); refine Qy J J J (Qj (hK _ _ (Qz (Qw (Qw ?_))))); clear hK K; refine Qx (fun K hK => ?_); refine Qq J J J (Qc J J sNat.und (List.length_map ..) J (Qk ieql J J J J (Qq J J J ?_)))
  have early : (limbs a).length = 0 ∨ (limbs b).length = 0 → natC (Nat.gcd a b) = natC (a + b) := by
    rintro (h | h)
    · have : a = 0 := Yx (List.eq_nil_of_length_eq_zero h); subst this; simp
    · have : b = 0 := Yx (List.eq_nil_of_length_eq_zero h); subst this; simp
  refine Q6 9 J (fun g1 => ?_) (fun g1 => ?_)
  · have ee := early (.inl (by omega)); refine Qv J J J (Qv J J J (Qv J J J (QZ J J J J (Qj (hK _ _ (Qz (Qn J (Qw ?_)))))))); clear hK K; refine Qx (fun K hK => ?_); refine Qq J J J (Qq J J J (QK gorPlus (rPlus_ok a b (by omega) (by omega)) J J J J ?_)); refine Qy J J J (Qj (hK _ _ (Qz (Q0 (QJ ?_))))); clear hK K; refine QU [_] rfl (Qu J QQ) (by rw [ee]; rfl) J
  · refine Qq J J J (Qc J J sNat.und (List.length_map ..) J (Qk ieql J J J J (QW J J J J (Qj (hK _ _ (Qz ?_)))))); clear hK K; refine Q2 J (fun g2 => ?_) (fun g2 => ?_)
    · have ee := early (.inr (by omega)); refine Qw (Qx fun K hK => ?_); refine Qq J J J (Qq J J J (QK gorPlus (rPlus_ok a b (by omega) (by omega)) J J J J ?_)); refine Qy J J J (Qj (hK _ _ (Qz (Q0 (QJ ?_))))); clear hK K; refine QU [_] rfl (Qu J QQ) (by rw [ee]; rfl) J
    · have ha0 : a ≠ 0 := limbs_len_pos.mp (by omega); have hb0 : b ≠ 0 := limbs_len_pos.mp (by omega); clear early
      have e11 : natC 1 = .fr (sliceT 1 [[intC 1]]) := by show intsC (limbs 1) = _; rw [Z0 (by decide) (by decide)]; rfl
      have h00 : (0 : Int).toNat = 0 := rfl; refine Q1 (Qz (Qw (Qx fun K hK => ?_)))
      refine Zx J J sNat J J J ?_
      rw [← e11]; refine Qy J J J (Qj (hK _ _ (Qz (Qw (Q7 ?_))))); clear hK K
      refine Xy (α := Nat × Nat × Nat) (fun s => 0 < s.1 ∧ 0 < s.2.1 ∧ 0 < s.2.2 ∧ s.1 ≤ a ∧ s.2.1 ≤ b ∧ s.2.2 * s.1 ≤ a ∧ s.2.2 * Nat.gcd s.1 s.2.1 = Nat.gcd a b)
        (fun s => [(0, .ct (natC s.1)), (1, .ct (natC s.2.1)), (5, .ct (natC s.2.2))]) (fun _ => []) (fun s => s.1) (a, b, 1) ⟨by dsimp only; omega, by dsimp only; omega, Nat.one_pos, Nat.le_refl _, Nat.le_refl _, by dsimp only; omega, by dsimp only; omega⟩ (by exact QX J ⟨rfl, rfl, rfl, trivial⟩) ?_
      rintro ⟨x, y, u⟩ ⟨hx, hy, hu, hxa, hyb, hua, hg⟩
      dsimp only at hx hy hu hxa hyb hua hg ⊢; have lx : (limbs x).length ≤ 10000 := Nat.le_trans (Xd hxa) la; have ly : (limbs y).length ≤ 10000 := Nat.le_trans (Xd hyb) lb; have lu : (limbs u).length ≤ 10000 := Nat.le_trans (Xd (Nat.le_trans (Nat.le_mul_of_pos_right u hx) hua)) la; have px := limbs_len_pos.mpr (show x ≠ 0 by omega); have py := limbs_len_pos.mpr (show y ≠ 0 by omega); have gx := limbs_get0 (show x ≠ 0 by omega); have gy := limbs_get0 (show y ≠ 0 by omega); refine Qw (Qw (Qx fun K hK => ?_)); refine Qq J J J (Qo J J J sNat (by omega) (X8 (by omega) (by omega)) J ?_)
      refine XJ J J J lInt J ?_
      rw [h00, gx]
      refine Qk (irem (by omega) (by omega)) J J J J ?_
      refine Qk ieql J J J J (Qq J J J (Q6 23 J (fun g3 => ?_) (fun g3 => ?_)))
      · refine Qq J J J (Qo J J J sNat (by omega) (X8 (by omega) (by omega)) J ?_)
        refine XJ J J J lInt J ?_
        rw [h00, gy]
        refine Qk (irem (by omega) (by omega)) J J J J ?_
        refine Qk ieql J J J J (QZ J J J J (Qj (hK _ _ (Qz ?_)))); clear hK K; refine Q2 J (fun g4 => ?_) (fun g4 => ?_)
        · refine Q1 (Qz (Q7 (Qx fun K hK => ?_))); refine Qq J J J (QK gorhalf (rhalf_ok x (by omega)) J J J J ?_); refine Qq J J J (QK gorhalf (rhalf_ok y (by omega)) J J J J ?_); refine Qq J J J (Qq J J J (QK gorPlus (rPlus_ok u u (by omega) (by omega)) J J J J ?_)); refine Qy J J J (Qy J J J (Qy J J J (Qj (hK _ _ (Qb (Q5 ?_)))))); clear hK K; have q1 := gcd_two (x := x) (y := y) (by omega) (by omega); refine Q9 (x / 2, y / 2, u + u) (by dsimp only; omega) ⟨by dsimp only; omega, by dsimp only; omega, by dsimp only; omega, by dsimp only; omega, by dsimp only; omega, ?_, ?_⟩ (by exact QX J ⟨rfl, rfl, rfl, trivial⟩)
          · dsimp only; rw [← Nat.two_mul, Nat.mul_comm 2 u, Nat.mul_assoc, show 2 * (x / 2) = x by omega]; exact hua
          · dsimp only; rw [← Nat.two_mul, Nat.mul_comm 2 u, Nat.mul_assoc, q1]; exact hg
        · have hodd : x % 2 = 1 ∨ y % 2 = 1 := by omega
          clear g3 g4 gx gy; refine Xq (Qz (Qw (Q7 ?_)))
          refine Xy (α := Nat × Nat) (fun s => s.1 ≤ a ∧ s.2 ≤ b ∧ (s.1 % 2 = 1 ∨ s.2 % 2 = 1) ∧ u * Nat.gcd s.1 s.2 = Nat.gcd a b)
            (fun s => [(0, .ct (natC s.1)), (1, .ct (natC s.2)), (5, .ct (natC u))]) (fun _ => []) (fun s => s.1 + s.2) (x, y) ⟨hxa, hyb, hodd, hg⟩ (by exact QX J ⟨rfl, rfl, rfl, trivial⟩) ?_
          clear hodd hg hxa hyb hua px py lx ly hx hy
          rintro ⟨p, q⟩ ⟨hpa, hqb, hodd, hg⟩
          dsimp only at hpa hqb hodd hg ⊢; have lp : (limbs p).length ≤ 10000 := Nat.le_trans (Xd hpa) la; have lq : (limbs q).length ≤ 10000 := Nat.le_trans (Xd hqb) lb
          have done : p = 0 ∨ q = 0 → natC (Nat.gcd a b) = natC (u * (p + q)) := by
            rintro (h | h)
            · subst h; rw [← hg]; simp
            · subst h; rw [← hg]; simp
          have lpq : (limbs (p + q)).length ≤ 10001 := by
            have h1 := Xe lp; have h2 := Xe lq; exact len_add h1 h2
          refine Qw (Qw (Qx fun K hK => ?_)); refine Qq J J J (Qc J J sNat.und (List.length_map ..) J (Qk igtr J J J J (Qq J J J (Q6 40 J (fun g5 => ?_) (fun g5 => ?_)))))
          · refine Qq J J J (Qc J J sNat.und (List.length_map ..) J (Qk igtr J J J J (QZ J J J J (Qj (hK _ _ (Qz ?_)))))); clear hK K; refine Q2 J (fun g6 => ?_) (fun g6 => ?_)
            · have hp0 : p ≠ 0 := limbs_len_pos.mp (by omega); have hq0 : q ≠ 0 := limbs_len_pos.mp (by omega); have gp := limbs_get0 hp0; have gq := limbs_get0 hq0; clear done; refine Q1 (Qz (Q7 (Q7 (Qw (Qx fun K hK => ?_))))); refine Qq J J J (Qo J J J sNat (by omega) (X8 (by omega) (by omega)) J ?_)
              refine XJ J J J lInt J ?_
              rw [h00, gp]
              refine Qk (irem (by omega) (by omega)) J J J J ?_
              refine Qk ieql J J J J (Qy J J J (Qj (hK _ _ (Qz ?_)))); clear hK K; refine Q2 J (fun g7 => ?_) (fun g7 => ?_)
              · have q1 := gcd_half (x := p) (y := q) (by omega) (by omega); refine Qx (fun K hK => ?_); refine Qq J J J (QK gorhalf (rhalf_ok p (by omega)) J J J J ?_); refine Qy J J J (Qj (hK _ _ (Qb (Qb (Q5 ?_))))); clear hK K; refine Q9 (p / 2, q) (by dsimp only; omega) ⟨by dsimp only; omega, hqb, by dsimp only; omega, by dsimp only; rw [q1]; exact hg⟩ (by exact QX J ⟨rfl, rfl, rfl, trivial⟩)
              · refine Qw (Qx fun K hK => ?_); refine Qq J J J (Qo J J J sNat (by omega) (X8 (by omega) (by omega)) J ?_)
                refine XJ J J J lInt J ?_
                rw [h00, gq]
                refine Qk (irem (by omega) (by omega)) J J J J ?_
                refine Qk ieql J J J J (Qy J J J (Qj (hK _ _ (Qz ?_)))); clear hK K; refine Q2 J (fun g8 => ?_) (fun g8 => ?_)
                · have q1 := gcd_half (x := q) (y := p) (by omega) (by omega); refine Qx (fun K hK => ?_); refine Qq J J J (QK gorhalf (rhalf_ok q (by omega)) J J J J ?_); refine Qy J J J (Qj (hK _ _ (Qb (Qb (Q5 ?_))))); clear hK K; refine Q9 (p, q / 2) (by dsimp only; omega) ⟨hpa, by dsimp only; omega, by dsimp only; omega, by dsimp only; rw [Nat.gcd_comm, q1, Nat.gcd_comm]; exact hg⟩ (by exact QX J ⟨rfl, rfl, rfl, trivial⟩)
                · refine Qw (Qx fun K hK => ?_); refine Qq J J J (Qq J J J (QK gorCompare (rCompare_ok p q (by omega) (by omega)) J J J J ?_)); refine Qk igeq J J J J (Qy J J J (Qj (hK _ _ (Qz ?_)))); clear hK K; refine Q2 J (fun g9 => ?_) (fun g9 => ?_)
                  · have hle : q ≤ p := by have := cmpI_neg (a := p) (b := q); omega
                    have q1 := gcd_less hle; refine Qx (fun K hK => ?_); refine Qq J J J (Qq J J J (QK gorLess (rLess_ok p q hle (by omega)) J J J J ?_)); refine Qy J J J (Qj (hK _ _ (Qb (Qb (Q5 ?_))))); clear hK K; refine Q9 (p - q, q) (by dsimp only; omega) ⟨by dsimp only; omega, hqb, by dsimp only; omega, by dsimp only; rw [q1]; exact hg⟩ (by exact QX J ⟨rfl, rfl, rfl, trivial⟩)
                  · have hle : p ≤ q := by have := cmpI_neg (a := p) (b := q); omega
                    have q1 := gcd_less hle; refine Qx (fun K hK => ?_); refine Qq J J J (Qq J J J (QK gorLess (rLess_ok q p hle (by omega)) J J J J ?_)); refine Qy J J J (Qj (hK _ _ (Qb (Qb (Q5 ?_))))); clear hK K; refine Q9 (p, q - p) (by dsimp only; omega) ⟨hpa, by dsimp only; omega, by dsimp only; omega, by dsimp only; rw [Nat.gcd_comm, q1, Nat.gcd_comm]; exact hg⟩ (by exact QX J ⟨rfl, rfl, rfl, trivial⟩)
            · have hd := done (.inr (Yx (List.eq_nil_of_length_eq_zero (by omega)))); refine Xq (Qz (Qw (Qx fun K hK => ?_))); refine Qq J J J (Qq J J J (Qq J J J (QK gorPlus (rPlus_ok p q (by omega) (by omega)) J J J J ?_)))
              refine QK gorTimes (rTimes_ok u (p + q) (by omega)) J J J J ?_
              refine Qy J J J (Qj (hK _ _ (Qz (Q0 ?_)))); clear hK K; refine QU [_] rfl (Qu J QQ) (by rw [hd]; rfl) J
          · have hd := done (.inl (Yx (List.eq_nil_of_length_eq_zero (by omega)))); refine Qv J J J (Qv J J J (Qv J J J (QW J J J J (Qj (hK _ _ (Qz (Xv J (Xq (Qz (Qw ?_)))))))))); clear hK K; refine Qx (fun K hK => ?_); refine Qq J J J (Qq J J J (Qq J J J (QK gorPlus (rPlus_ok p q (by omega) (by omega)) J J J J ?_)))
            refine QK gorTimes (rTimes_ok u (p + q) (by omega)) J J J J ?_
            refine Qy J J J (Qj (hK _ _ (Qz (Q0 ?_)))); clear hK K; refine QU [_] rfl (Qu J QQ) (by rw [hd]; rfl) J
      · have hodd : x % 2 = 1 ∨ y % 2 = 1 := by omega
        clear g3 gx gy; refine Qv J J J (Qv J J J (Qv J J J (Qv J J J (Qv J J J (QW J J J J (Qj (hK _ _ (Qz (Xv J (Xq (Qz (Qw (Q7 ?_))))))))))))); clear hK K
        refine Xy (α := Nat × Nat) (fun s => s.1 ≤ a ∧ s.2 ≤ b ∧ (s.1 % 2 = 1 ∨ s.2 % 2 = 1) ∧ u * Nat.gcd s.1 s.2 = Nat.gcd a b)
          (fun s => [(0, .ct (natC s.1)), (1, .ct (natC s.2)), (5, .ct (natC u))]) (fun _ => []) (fun s => s.1 + s.2) (x, y) ⟨hxa, hyb, hodd, hg⟩ (by exact QX J ⟨rfl, rfl, rfl, trivial⟩) ?_
        clear hodd hg hxa hyb hua px py lx ly hx hy
        rintro ⟨p, q⟩ ⟨hpa, hqb, hodd, hg⟩
        dsimp only at hpa hqb hodd hg ⊢; have lp : (limbs p).length ≤ 10000 := Nat.le_trans (Xd hpa) la; have lq : (limbs q).length ≤ 10000 := Nat.le_trans (Xd hqb) lb
        have done : p = 0 ∨ q = 0 → natC (Nat.gcd a b) = natC (u * (p + q)) := by
          rintro (h | h)
          · subst h; rw [← hg]; simp
          · subst h; rw [← hg]; simp
        have lpq : (limbs (p + q)).length ≤ 10001 := by
          have h1 := Xe lp; have h2 := Xe lq; exact len_add h1 h2
        refine Qw (Qw (Qx fun K hK => ?_)); refine Qq J J J (Qc J J sNat.und (List.length_map ..) J (Qk igtr J J J J (Qq J J J (Q6 40 J (fun g5 => ?_) (fun g5 => ?_)))))
        · refine Qq J J J (Qc J J sNat.und (List.length_map ..) J (Qk igtr J J J J (QZ J J J J (Qj (hK _ _ (Qz ?_)))))); clear hK K; refine Q2 J (fun g6 => ?_) (fun g6 => ?_)
          · have hp0 : p ≠ 0 := limbs_len_pos.mp (by omega); have hq0 : q ≠ 0 := limbs_len_pos.mp (by omega); have gp := limbs_get0 hp0; have gq := limbs_get0 hq0; clear done; refine Q1 (Qz (Q7 (Q7 (Qw (Qx fun K hK => ?_))))); refine Qq J J J (Qo J J J sNat (by omega) (X8 (by omega) (by omega)) J ?_)
            refine XJ J J J lInt J ?_
            rw [h00, gp]
            refine Qk (irem (by omega) (by omega)) J J J J ?_
            refine Qk ieql J J J J (Qy J J J (Qj (hK _ _ (Qz ?_)))); clear hK K; refine Q2 J (fun g7 => ?_) (fun g7 => ?_)
            · have q1 := gcd_half (x := p) (y := q) (by omega) (by omega); refine Qx (fun K hK => ?_); refine Qq J J J (QK gorhalf (rhalf_ok p (by omega)) J J J J ?_); refine Qy J J J (Qj (hK _ _ (Qb (Qb (Q5 ?_))))); clear hK K; refine Q9 (p / 2, q) (by dsimp only; omega) ⟨by dsimp only; omega, hqb, by dsimp only; omega, by dsimp only; rw [q1]; exact hg⟩ (by exact QX J ⟨rfl, rfl, rfl, trivial⟩)
            · refine Qw (Qx fun K hK => ?_); refine Qq J J J (Qo J J J sNat (by omega) (X8 (by omega) (by omega)) J ?_)
              refine XJ J J J lInt J ?_
              rw [h00, gq]
              refine Qk (irem (by omega) (by omega)) J J J J ?_
              refine Qk ieql J J J J (Qy J J J (Qj (hK _ _ (Qz ?_)))); clear hK K; refine Q2 J (fun g8 => ?_) (fun g8 => ?_)
              · have q1 := gcd_half (x := q) (y := p) (by omega) (by omega); refine Qx (fun K hK => ?_); refine Qq J J J (QK gorhalf (rhalf_ok q (by omega)) J J J J ?_); refine Qy J J J (Qj (hK _ _ (Qb (Qb (Q5 ?_))))); clear hK K; refine Q9 (p, q / 2) (by dsimp only; omega) ⟨hpa, by dsimp only; omega, by dsimp only; omega, by dsimp only; rw [Nat.gcd_comm, q1, Nat.gcd_comm]; exact hg⟩ (by exact QX J ⟨rfl, rfl, rfl, trivial⟩)
              · refine Qw (Qx fun K hK => ?_); refine Qq J J J (Qq J J J (QK gorCompare (rCompare_ok p q (by omega) (by omega)) J J J J ?_)); refine Qk igeq J J J J (Qy J J J (Qj (hK _ _ (Qz ?_)))); clear hK K; refine Q2 J (fun g9 => ?_) (fun g9 => ?_)
                · have hle : q ≤ p := by have := cmpI_neg (a := p) (b := q); omega
                  have q1 := gcd_less hle; refine Qx (fun K hK => ?_); refine Qq J J J (Qq J J J (QK gorLess (rLess_ok p q hle (by omega)) J J J J ?_)); refine Qy J J J (Qj (hK _ _ (Qb (Qb (Q5 ?_))))); clear hK K; refine Q9 (p - q, q) (by dsimp only; omega) ⟨by dsimp only; omega, hqb, by dsimp only; omega, by dsimp only; rw [q1]; exact hg⟩ (by exact QX J ⟨rfl, rfl, rfl, trivial⟩)
                · have hle : p ≤ q := by have := cmpI_neg (a := p) (b := q); omega
                  have q1 := gcd_less hle; refine Qx (fun K hK => ?_); refine Qq J J J (Qq J J J (QK gorLess (rLess_ok q p hle (by omega)) J J J J ?_)); refine Qy J J J (Qj (hK _ _ (Qb (Qb (Q5 ?_))))); clear hK K; refine Q9 (p, q - p) (by dsimp only; omega) ⟨hpa, by dsimp only; omega, by dsimp only; omega, by dsimp only; rw [Nat.gcd_comm, q1, Nat.gcd_comm]; exact hg⟩ (by exact QX J ⟨rfl, rfl, rfl, trivial⟩)
          · have hd := done (.inr (Yx (List.eq_nil_of_length_eq_zero (by omega)))); refine Xq (Qz (Qw (Qx fun K hK => ?_))); refine Qq J J J (Qq J J J (Qq J J J (QK gorPlus (rPlus_ok p q (by omega) (by omega)) J J J J ?_)))
            refine QK gorTimes (rTimes_ok u (p + q) (by omega)) J J J J ?_
            refine Qy J J J (Qj (hK _ _ (Qz (Q0 ?_)))); clear hK K; refine QU [_] rfl (Qu J QQ) (by rw [hd]; rfl) J
        · have hd := done (.inl (Yx (List.eq_nil_of_length_eq_zero (by omega)))); refine Qv J J J (Qv J J J (Qv J J J (QW J J J J (Qj (hK _ _ (Qz (Xv J (Xq (Qz (Qw ?_)))))))))); clear hK K; refine Qx (fun K hK => ?_); refine Qq J J J (Qq J J J (Qq J J J (QK gorPlus (rPlus_ok p q (by omega) (by omega)) J J J J ?_)))
          refine QK gorTimes (rTimes_ok u (p + q) (by omega)) J J J J ?_
          refine Qy J J J (Qj (hK _ _ (Qz (Q0 ?_)))); clear hK K; refine QU [_] rfl (Qu J QQ) (by rw [hd]; rfl) J
theorem gorGcd : InGo Tryz.prog 97 := InGo.of Tryz.func97 (by kernel_rfl) (by kernel_rfl)
theorem rmagnitude_ok (n : Int) (h1 : -9223372036854775808 ≤ n) (h2 : n ≤ 9223372036854775807) : Ok Tryz.prog 53 [intC n] (natC n.natAbs) := by
  refine Ok.enter Tryz.func53 rfl _ Tryz.ntmps53 rfl ?_
  intro S w
  (refine Qw (Qx fun K hK => ?_); refine Qy rfl rfl rfl ?_; refine Qj (hK _ _ (Qz (Qw (Qw ?_)))); clear hK K; refine Qx (fun K hK => ?_); refine Qq rfl rfl rfl ?_; refine Qk ilss rfl rfl rfl rfl ?_; refine Qj (hK _ _ (Qz ?_)); clear hK K)
  refine Q2 rfl (fun h => ?_) (fun h => ?_)
  · (refine Qw (Qx fun K hK => ?_); refine Qq rfl rfl rfl ?_; refine Qk (iadd (by omega) (by omega)) rfl rfl rfl rfl ?_)
    refine Ops.ineg rfl rfl (by omega) (by omega) rfl ?_
    refine Z9 rfl rfl (by with_reducible exact uI64) (by with_reducible exact uU64) (wrap_u (by omega) (by omega)) rfl ?_
    refine Qk (uadd (by omega) (by omega)) rfl rfl rfl rfl ?_
    rw [show -(n + 1) + 1 = (n.natAbs : Int) by omega]
    refine QK gorWord (rWord_ok n.natAbs (by omega)) rfl rfl rfl rfl ?_
    (refine Qy rfl rfl rfl ?_; refine Qj (hK _ _ (Qz (Q0 (QJ ?_)))); clear hK K)
    refine QU [_] rfl (Qu rfl QQ) rfl rfl
  · (refine Q1 (Qz (Qw (Qx fun K hK => ?_))); refine Qq rfl rfl rfl ?_)
    refine Z9 rfl rfl (by with_reducible exact uI64) (by with_reducible exact uU64) (wrap_u (by omega) (by omega)) rfl ?_
    rw [show n = (n.natAbs : Int) by omega]
    refine QK gorWord (rWord_ok n.natAbs (by omega)) rfl rfl rfl rfl ?_
    (refine Qy rfl rfl rfl ?_; refine Qj (hK _ _ (Qz (Q0 ?_))); clear hK K)
    refine QU [_] rfl (Qu rfl QQ) rfl rfl
theorem gormagnitude : InGo Tryz.prog 53 := InGo.of Tryz.func53 (by kernel_rfl) (by kernel_rfl)
set_option maxHeartbeats 2000000 in
theorem rreduced_ok (neg : Bool) (a b : Nat) (h0 : 0 < b) (la : (limbs a).length ≤ 10000) (lb : (limbs b).length ≤ 10000) : Ok Tryz.prog 52 [boolC neg, natC a, natC b] (fracC (redF neg a b)) := by
  have hg0 : 0 < Nat.gcd a b := Nat.gcd_pos_of_pos_right _ h0
  have hg1 : Nat.gcd a b ≤ b := Nat.gcd_le_right _ h0
  have lg : (limbs (Nat.gcd a b)).length ≤ 10000 := Nat.le_trans (Xd hg1) lb
  have h1 := rGcd_ok a b la lb
  have h2 := rSplit_ok a _ hg0 la lg
  have h3 := rSplit_ok b _ hg0 lb lg
  have e0 : a ≠ 0 → redF neg a b = ⟨neg, a / Nat.gcd a b, b / Nat.gcd a b⟩ := fun ha => by
    unfold redF
    have : a / Nat.gcd a b ≠ 0 := by
      have := Nat.div_pos (Nat.gcd_le_left b (Nat.pos_of_ne_zero ha)) hg0
      omega
    simp [this]
  have e1 : a = 0 → redF neg a b = ⟨false, 0, 1⟩ := fun ha => by
    subst ha; unfold redF; simp [Nat.div_self h0]
  have e11 : natC 1 = .fr (sliceT 1 [[intC 1]]) := by show intsC (limbs 1) = _; rw [Z0 (by decide) (by decide)]; rfl
  generalize Nat.gcd a b = g at *
  refine Ok.enter Tryz.func52 rfl _ Tryz.ntmps52 rfl ?_
  intro S w
  (refine Qw (Qx fun K hK => ?_); refine Qh 0 rfl rfl (by with_reducible exact zvFrac) rfl rfl rfl ?_; refine Qj (hK _ _ (Qz (Qw (Qw ?_)))); clear hK K; refine Qx (fun K hK => ?_); refine Qq rfl rfl rfl ?_; refine Qc rfl rfl (by with_reducible exact sNat.und) (List.length_map ..) rfl ?_; refine Qk ieql rfl rfl rfl rfl ?_; refine Qj (hK _ _ (Qz ?_)); clear hK K)
  refine Q2 rfl (fun h => ?_) (fun h => ?_)
  · have ha : a = 0 := Yx (List.eq_nil_of_length_eq_zero (by omega))
    have e2 := e1 ha
    (refine Qw (Qx fun K hK => ?_))
    refine Zx rfl rfl (by with_reducible exact sNat) rfl rfl rfl ?_
    rw [← e11]
    refine Qt rfl (by with_reducible exact bFrac) rfl (.one rfl rfl rfl rfl .nil) rfl ?_
    (refine Qa 3 rfl rfl rfl rfl rfl (by with_reducible exact szFrac) rfl rfl ?_; refine Qj (hK _ _ (Qz (Q0 (QJ ?_)))); clear hK K)
    refine QU [_] rfl (X3 (w_agg (ds := [boolC false, intsC [], natC 1]) (by exact ⟨w_same, Z4, w_same, trivial⟩)) (Qi (n := 3) rfl rfl (by with_reducible exact Zl) rfl QQ)) (by rw [e2, ← natC_zero]; rfl) rfl
  · have ha : a ≠ 0 := fun ha => h (by rw [ha, limbs_zero]; rfl)
    have e2 := e0 ha
    (refine Q1 (Qz (Qw (Qx fun K hK => ?_))); refine Qq rfl rfl rfl ?_; refine Qq rfl rfl rfl ?_)
    refine QK gorGcd h1 rfl rfl rfl rfl ?_
    (refine Qy rfl rfl rfl ?_; refine Qj (hK _ _ (Qz (Qw ?_))); clear hK K; refine Qx (fun K hK => ?_); refine Qq rfl rfl rfl ?_; refine Qq rfl rfl rfl ?_)
    refine QK gorSplit h2 rfl rfl rfl rfl ?_
    (refine Qq rfl rfl rfl ?_; refine Qf rfl rfl rfl rfl ?_; refine Qf rfl rfl rfl rfl ?_; refine Qy rfl rfl rfl ?_; refine Qy rfl rfl rfl ?_; refine Qj (hK _ _ (Qz (Qw ?_))); clear hK K; refine Qx (fun K hK => ?_); refine Qq rfl rfl rfl ?_; refine Qq rfl rfl rfl ?_)
    refine QK gorSplit h3 rfl rfl rfl rfl ?_
    (refine Qq rfl rfl rfl ?_; refine Qf rfl rfl rfl rfl ?_; refine Qf rfl rfl rfl rfl ?_; refine Qy rfl rfl rfl ?_; refine Qy rfl rfl rfl ?_; refine Qj (hK _ _ (Qz (Qw ?_))); clear hK K; refine Qx (fun K hK => ?_); refine Qq rfl rfl rfl ?_; refine Qq rfl rfl rfl ?_; refine Qq rfl rfl rfl ?_)
    refine Qt rfl (by with_reducible exact bFrac) rfl (.one rfl rfl rfl rfl (.one rfl rfl rfl rfl (.one rfl rfl rfl rfl .nil))) rfl ?_
    (refine Qa 3 rfl rfl rfl rfl rfl (by with_reducible exact szFrac) rfl rfl ?_; refine Qj (hK _ _ (Qz (Q0 ?_))); clear hK K)
    refine QU [_] rfl (Qi (n := 3) rfl rfl (by with_reducible exact Zl) rfl QQ) (by rw [e2]; rfl) rfl
theorem gorreduced : InGo Tryz.prog 52 := InGo.of Tryz.func52 (by kernel_rfl) (by kernel_rfl)
set_option maxHeartbeats 2000000 in
theorem rFrom_ok (n d : Int) (h1 : -9223372036854775808 ≤ n) (h2 : n ≤ 9223372036854775807) (h3 : -9223372036854775808 ≤ d) (h4 : d ≤ 9223372036854775807) (h0 : d ≠ 0) : Ok Tryz.prog 18 [intC n, intC d] (.fr (tupT [ratC (Rat.divInt n d), intC 0])) := by
  have hl : (limbs n.natAbs).length ≤ 3 := XW (k := 3) (by omega); have hl2 : (limbs d.natAbs).length ≤ 3 := XW (k := 3) (by omega); rw [show ratC (Rat.divInt n d) = fracC (redF (decide (n < 0) != decide (d < 0)) n.natAbs d.natAbs) from by rw [from_redF n d h0]]
  refine Ok.enter Tryz.func18 J _ Tryz.ntmps18 J ?_
  intro S w; refine Qw (Qx fun K hK => ?_); refine Qh 0 J J zvFrac J J J (Qy J J J (Qj (hK _ _ (Qz (Qw (Qw ?_)))))); clear hK K; refine Qx (fun K hK => ?_); refine Qq J J J (Qk ieql J J J J (Qj (hK _ _ (Qz ?_)))); clear hK K; refine Q2 J (fun h => absurd h h0) (fun h => ?_); refine Q1 (Qz (Qw (Qx fun K hK => ?_))); refine Qq J J J (Qk ilss J J J J (Qq J J J (Qk ilss J J J J (Ops.bne J J J uBool J ?_)))); rw [dne]; refine Qq J J J (QK gormagnitude (rmagnitude_ok n h1 h2) J J J J (Qq J J J (QK gormagnitude (rmagnitude_ok d h3 h4) J J J J (QK gorreduced (rreduced_ok _ n.natAbs d.natAbs (by omega) (by omega) (by omega)) J J J J ?_)))); refine Qa 3 J J J J J szFrac J J (Qy J J J (Qj (hK _ _ (Qz (Q0 ?_))))); clear hK K; refine QU [_, _] rfl (Qi (n := 3) J J Zl J (Qu J QQ)) J J
theorem gorFrom : InGo Tryz.prog 18 := InGo.of Tryz.func18 (by kernel_rfl) (by kernel_rfl)
def oppF (f : Fr) : Fr := ⟨!f.neg && decide (f.num ≠ 0), f.num, f.den⟩
end Go.Proofs.YtlkdkbdgnjcopaaGreat
namespace Go.Own
end Go.Own
namespace Go.Proofs.YtlkdkbdgnjcopaaGreat
open Go.Own Go.Limbs
attribute [local irreducible] St Ops Go.Own.Fin Ok
def cmpQ (p q : Rat) : Int := (p.num * q.den - q.num * p.den).sign
end Go.Proofs.YtlkdkbdgnjcopaaGreat
namespace Go.Proofs.YtlkdkbdgnjcopaaGreat
open Go.Own Go.Limbs
theorem chk_fine {x : List Rs} (hok : ∀ r ∈ x, okR r = true) (hpw : pwB x = true) (hl : (x.length : Int) ≤ 512) : chkF x = 0 := by
  have hpw := pw_all hpw
  have h1 := sd_len cmpR (x.filter okR)
  have h2 := List.length_filter_le okR x
  unfold chkF
  rw [if_neg (by rw [List.any_eq_true]; rintro ⟨r, hr, h⟩; rw [hok r hr] at h; cases h), if_neg (by omega), if_pos (cons_all fun a ha b hb => hpw a ha b hb)]
structure CnOk (l : List Rs) (n : Int) (c : Cn) : Prop where
  se : 1 ≤ c.se ∧ c.se ≤ l.length
  hi : 0 ≤ c.hi ∧ c.hi ≤ c.se
  lo : c.lo = max 0 (c.hi - n)
  cnt : ∀ b, 0 ≤ b → b ≤ 1048576 → cntF l c.wr b = (⟨c.wr, c.se, max 0 (c.hi - b), c.hi⟩, 0)
  crs : crO l c.wr = ((crsF l c.wr true).map idOf, (crsF l c.wr false).map idOf, 0)
  len : ((crsF l c.wr true).length : Int) + (crsF l c.wr false).length = c.se ∧ ((crsF l c.wr false).length : Int) = c.hi
theorem filter_two {α : Type} (p : α → Bool) (q : α → Bool) : ∀ l : List α, (l.filter fun r => p r && (q r == true)).length + (l.filter fun r => p r && (q r == false)).length = (l.filter p).length
  | [] => rfl
  | a :: l => by
    have ih := filter_two p q l
    rw [List.filter_cons, List.filter_cons, List.filter_cons]
    cases hp : p a <;> cases hq : q a <;> simp only [show ((true : Bool) == true) = true from rfl, show ((false : Bool) == true) = false from rfl, show ((true : Bool) == false) = false from rfl, show ((false : Bool) == false) = true from rfl, Bool.and_self, Bool.and_true, Bool.and_false, Bool.false_and, if_true, Bool.false_eq_true, if_false, List.length_cons] <;> omega
theorem cnOf_ok {l : List Rs} {n : Int} (hc : chkF l = 0) (hn : 0 ≤ n ∧ n ≤ 1048576) {c : Cn} (h : c ∈ (alO l n).1) : CnOk l n c := by
  have e : (alO l n).1 = (sd cmpW ((tickF (wayF l) (sd cmpR (l.filter okR))).map (·.1))).map (cnOf (tickF (wayF l) (sd cmpR (l.filter okR))) n) := by
    unfold alO; rw [if_neg (by omega), if_neg (fun h => h hc)]
  rw [e] at h
  obtain ⟨w, hw, rfl⟩ := List.mem_map.1 h
  have hw := ((Zh ordW _).2 w).1 hw
  rw [← look1_some] at hw
  obtain ⟨r, hr, hrw⟩ := ((tickF_some (wayF l) w _ []).1 hw).resolve_left (by simp [look1])
  have hk : (look1 (tickF (wayF l) (sd cmpR (l.filter okR))) w).getD (0, 0) = (0 + (((sd cmpR (l.filter okR)).filter fun r => decide (w ∈ wayF l r)).length : Int), 0 + (((sd cmpR (l.filter okR)).filter fun r => decide (w ∈ wayF l r) && (r.an == false)).length : Int)) := tickF_look (wayF l) w _ []
  have h2 : (crsF l w true).length + (crsF l w false).length = ((sd cmpR (l.filter okR)).filter fun r => decide (w ∈ wayF l r)).length := filter_two _ _ _
  have h3 : (crsF l w false).length = ((sd cmpR (l.filter okR)).filter fun r => decide (w ∈ wayF l r) && (r.an == false)).length := rfl
  have h4 : 0 < ((sd cmpR (l.filter okR)).filter fun r => decide (w ∈ wayF l r)).length := List.length_pos_of_mem (List.mem_filter.2 ⟨hr, decide_eq_true hrw⟩)
  have h5 := List.length_filter_le (fun r => decide (w ∈ wayF l r)) (sd cmpR (l.filter okR))
  have h6 := sd_len cmpR (l.filter okR)
  have h7 := List.length_filter_le okR l
  rw [← h2, ← h3, Int.zero_add, Int.zero_add] at hk
  rw [← h2] at h4 h5
  clear h2 h3
  have e2 : cnOf (tickF (wayF l) (sd cmpR (l.filter okR))) n w = ⟨w, ((crsF l w true).length : Int) + (crsF l w false).length, max 0 ((crsF l w false).length - n), (crsF l w false).length⟩ := by
    unfold cnOf; rw [hk]; simp
  rw [e2]
  refine ⟨⟨by dsimp only; omega, by dsimp only; omega⟩, ⟨by dsimp only; omega, by dsimp only; omega⟩, rfl, fun b h0 h1 => ?_, ?_, ⟨rfl, rfl⟩⟩
  · dsimp only
    unfold cntF
    rw [if_neg (by omega), if_neg (fun h => h hc), if_neg (by omega)]
  · dsimp only
    unfold crO
    rw [if_neg (fun h => h hc), if_neg (by omega)]
theorem alO_snd {l : List Rs} {n : Int} (hc : chkF l = 0) (hn : 0 ≤ n ∧ n ≤ 1048576) : (alO l n).2 = 0 := by
  unfold alO; rw [if_neg (by omega), if_neg (fun h => h hc)]
theorem alO_len (l : List Rs) (n : Int) : (alO l n).1.length ≤ l.length * 256 := by
  unfold alO
  split
  · exact Nat.zero_le _
  · split
    · exact Nat.zero_le _
    · dsimp only
      rw [List.length_map]
      refine Nat.le_trans (sd_len _ _) ?_
      rw [List.length_map]
      have h1 := tickF_len (wayF l) 256 (wayF_len l) (sd cmpR (l.filter okR)) []
      have h2 := sd_len cmpR (l.filter okR)
      have h3 := List.length_filter_le okR l
      refine Nat.le_trans h1 ?_
      rw [List.length_nil, Nat.zero_add]
      exact Nat.mul_le_mul_right _ (Nat.le_trans h2 h3)
attribute [local irreducible] Go.Own.Fin Ok OkB OkF OkL OkM OkN OkT Ops St
theorem gocounted : InGo Tryz.prog 38 := InGo.of Tryz.func38 rfl (by decide)
theorem counted_ok (w : Wr) (a b n : Int) (ha : 0 ≤ a ∧ a ≤ 100000) (hb : 0 ≤ b ∧ b ≤ 100000) (hn : 0 ≤ n ∧ n ≤ 1048576) : Ok Tryz.prog 38 [wrC w, csC (a, b), intC n] (cnC ⟨w, a, max 0 (b - n), b⟩) := by
  refine Ok.enter Tryz.func38 rfl _ Tryz.ntmps38 rfl ?_
  intro S w0
  refine Qw ?_
  refine Qx (fun K hK => ?_)
  refine Xu 0 rfl rfl rfl rfl rfl rfl rfl ?_
  refine Xu 1 rfl rfl rfl rfl rfl rfl rfl ?_
  refine Qh 2 rfl rfl (by with_reducible exact zvCn) rfl rfl rfl ?_
  (refine Qj (hK _ _ (Qz (Qw ?_))); clear hK K; refine Qx (fun K hK => ?_); refine Q4 (n := 2) rfl rfl rfl rfl rfl (by with_reducible first | exact Zo | exact ZK | exact lCs) rfl ?_; refine QV rfl rfl rfl (by with_reducible first | exact fTk0 | exact fTk1 | exact fTk2 | exact fWr0 | exact fWr1 | exact X1 | exact X0 | exact Xi | exact fStm1 | exact fCn0 | exact fCn1 | exact fCn2 | exact fCn3 | exact fCs0 | exact fCs1) rfl ?_; refine QY rfl rfl rfl rfl rfl (by with_reducible first | exact lInt | exact Qd | exact Q8 | exact lRess) rfl ?_; refine QV rfl rfl rfl (by with_reducible first | exact fTk0 | exact fTk1 | exact fTk2 | exact fWr0 | exact fWr1 | exact X1 | exact X0 | exact Xi | exact fStm1 | exact fCn0 | exact fCn1 | exact fCn2 | exact fCn3 | exact fCs0 | exact fCs1) rfl ?_; refine QY rfl rfl rfl rfl rfl (by with_reducible first | exact lInt | exact Qd | exact Q8 | exact lRess) rfl ?_; refine Qq rfl rfl rfl ?_; refine Qk (isub (by omega) (by omega)) rfl rfl rfl rfl ?_; refine Ops.max2 rfl rfl rfl rfl ?_; refine QV rfl rfl rfl (by with_reducible first | exact fTk0 | exact fTk1 | exact fTk2 | exact fWr0 | exact fWr1 | exact X1 | exact X0 | exact Xi | exact fStm1 | exact fCn0 | exact fCn1 | exact fCn2 | exact fCn3 | exact fCs0 | exact fCs1) rfl ?_; refine QY rfl rfl rfl rfl rfl (by with_reducible first | exact lInt | exact Qd | exact Q8 | exact lRess) rfl ?_)
  refine Qt rfl (by with_reducible exact bCn) rfl (.agg rfl rfl rfl rfl (.one rfl rfl rfl rfl (.one rfl rfl rfl rfl (.one rfl rfl rfl rfl .nil)))) rfl ?_
  (refine Qa 5 rfl rfl rfl rfl rfl (by with_reducible exact szCn) rfl rfl ?_; refine Qj (hK _ _ (Qz (Q0 ?_))); clear hK K)
  refine QU [_] rfl (Qi (n := 5) rfl rfl (by with_reducible exact lCn) rfl QQ) rfl rfl
theorem goCount : InGo Tryz.prog 12 := InGo.of Tryz.func12 rfl (by decide)
set_option maxHeartbeats 4000000 in
theorem Count_ok (l : List Rs) (hl : l.length ≤ 10000) (w : Wr) (n : Int) : Ok Tryz.prog 12 [rssC l, wrC w, intC n] (.fr (tupT [cnC (cntF l w n).1, intC (cntF l w n).2])) := by
  have hX := Crosses_ok l hl w
  have hlen : ∀ b, (crsF l w b).length ≤ 10000 := fun b => by
    have := sd_len cmpR (l.filter okR)
    have := List.length_filter_le okR l
    have := List.length_filter_le (fun r => decide (w ∈ wayF l r) && (r.an == b)) (sd cmpR (l.filter okR))
    unfold crsF; omega
  have e : cntF l w n = if n < 0 ∨ 1048576 < n then (cn0, 1) else if ¬ (crO l w).2.2 = 0 then (cn0, (crO l w).2.2) else (⟨w, ((crO l w).1.length : Int) + (crO l w).2.1.length, max 0 ((crO l w).2.1.length - n), (crO l w).2.1.length⟩, 0) := by
    unfold cntF crO
    by_cases h0 : n < 0 ∨ 1048576 < n
    · rw [if_pos h0, if_pos h0]
    rw [if_neg h0, if_neg h0]
    by_cases h1 : chkF l = 0
    · by_cases h2 : (crsF l w true).length + (crsF l w false).length = 0
      · simp only [ne_eq, h1, h2, not_true_eq_false, if_false, if_true, reduceIte]; rfl
      · simp only [ne_eq, h1, h2, not_true_eq_false, if_false, if_true, reduceIte, List.length_map]
    · simp only [ne_eq, h1, not_false_eq_true, if_true, reduceIte]
  have hl1 : (crO l w).1.length ≤ 10000 ∧ (crO l w).2.1.length ≤ 10000 := by
    unfold crO
    have h1 := hlen true
    have h2 := hlen false
    split
    · simp
    · split
      · simp
      · simp only [List.length_map]; exact ⟨h1, h2⟩
  generalize cntF l w n = out at e ⊢
  generalize crO l w = c at hX e hl1
  obtain ⟨s, t, c⟩ := c
  dsimp only at hX e hl1
  refine Ok.enter Tryz.func12 rfl _ Tryz.ntmps12 rfl ?_
  intro S w0
  refine Qw ?_
  refine Qx (fun K hK => ?_)
  refine Xu 0 rfl rfl rfl rfl rfl rfl rfl ?_
  refine Qh 1 rfl rfl (by with_reducible exact zvCn) rfl rfl rfl ?_
  (refine Qy rfl rfl rfl ?_; refine Qj (hK _ _ (Qz (Qw (Qw ?_)))); clear hK K; refine Qx (fun K hK => ?_); refine Qq rfl rfl rfl ?_; refine Qk ilss rfl rfl rfl rfl ?_; refine Qq rfl rfl rfl ?_)
  refine Q6 13 rfl (fun h1 => ?_) (fun h1 => ?_)
  · rw [if_pos (.inl h1)] at e
    (refine Qv rfl rfl rfl ?_; refine Qv rfl rfl rfl ?_; refine QZ rfl rfl rfl rfl ?_; refine Qj (hK _ _ (Qz (Qn rfl (Qw ?_)))); clear hK K; refine Qx (fun K hK => ?_))
    refine Qt rfl (by with_reducible exact bCn) rfl .nil rfl ?_
    (refine Qa 5 rfl rfl rfl rfl rfl (by with_reducible exact szCn) rfl rfl ?_; refine Qy rfl rfl rfl ?_; refine Qj (hK _ _ (Qz (Q0 (QJ ?_)))); clear hK K)
    refine QU [_, _] rfl (Qi (n := 5) rfl rfl (by with_reducible exact lCn) rfl (Qu rfl QQ)) (by rw [e]; rfl) rfl
  (refine Qq rfl rfl rfl ?_; refine Qk igtr rfl rfl rfl rfl ?_; refine QW rfl rfl rfl rfl ?_; refine Qj (hK _ _ (Qz ?_)); clear hK K)
  refine Q2 rfl (fun h2 => ?_) (fun h2 => ?_)
  · rw [if_pos (.inr h2)] at e
    (refine Qw (Qx fun K hK => ?_))
    refine Qt rfl (by with_reducible exact bCn) rfl .nil rfl ?_
    (refine Qa 5 rfl rfl rfl rfl rfl (by with_reducible exact szCn) rfl rfl ?_; refine Qy rfl rfl rfl ?_; refine Qj (hK _ _ (Qz (Q0 (QJ ?_)))); clear hK K)
    refine QU [_, _] rfl (Qi (n := 5) rfl rfl (by with_reducible exact lCn) rfl (Qu rfl QQ)) (by rw [e]; rfl) rfl
  rw [if_neg (fun h => h.elim h1 h2)] at e
  (refine Q1 (Qz (Qw (Qx fun K hK => ?_))); refine Qq rfl rfl rfl ?_; refine Q4 (n := 2) rfl rfl rfl rfl rfl (by with_reducible first | exact Zo | exact ZK | exact lCs) rfl ?_)
  refine QK goCrosses hX rfl rfl rfl rfl ?_
  (refine Qq rfl rfl rfl ?_; refine Qf rfl rfl rfl rfl ?_; refine Qf rfl rfl rfl rfl ?_; refine Qf rfl rfl rfl rfl ?_; refine Qy rfl rfl rfl ?_; refine Qy rfl rfl rfl ?_; refine Qy rfl rfl rfl ?_; refine Qj (hK _ _ (Qz (Qw (Qw ?_)))); clear hK K; refine Qx (fun K hK => ?_); refine Qq rfl rfl rfl ?_; refine Qk ineq rfl rfl rfl rfl ?_; refine Qj (hK _ _ (Qz ?_)); clear hK K)
  refine Q2 rfl (fun h3 => ?_) (fun h3 => ?_)
  · rw [if_pos h3] at e
    (refine Qw (Qx fun K hK => ?_))
    refine Qt rfl (by with_reducible exact bCn) rfl .nil rfl ?_
    (refine Qq rfl rfl rfl ?_; refine Qa 5 rfl rfl rfl rfl rfl (by with_reducible exact szCn) rfl rfl ?_; refine Qy rfl rfl rfl ?_; refine Qj (hK _ _ (Qz (Q0 (QJ ?_)))); clear hK K)
    refine QU [_, _] rfl (Qi (n := 5) rfl rfl (by with_reducible exact lCn) rfl (Qu rfl QQ)) (by rw [e]; rfl) rfl
  rw [if_neg h3] at e
  (refine Q1 (Qz (Qw (Qx fun K hK => ?_))); refine Q4 (n := 2) rfl rfl rfl rfl rfl (by with_reducible first | exact Zo | exact ZK | exact lCs) rfl ?_; refine Qq rfl rfl rfl ?_; refine Qc rfl rfl (by with_reducible first | exact sTks.und | exact sWrs.und | exact sIks.und | exact sAdrs.und) (List.length_map ..) rfl ?_; refine Qq rfl rfl rfl ?_; refine Qc rfl rfl (by with_reducible first | exact sTks.und | exact sWrs.und | exact sIks.und | exact sAdrs.und) (List.length_map ..) rfl ?_; refine Qk (iadd (by omega) (by omega)) rfl rfl rfl rfl ?_; refine Qq rfl rfl rfl ?_; refine Qc rfl rfl (by with_reducible first | exact sTks.und | exact sWrs.und | exact sIks.und | exact sAdrs.und) (List.length_map ..) rfl ?_)
  refine Qt rfl (by with_reducible exact bCs) rfl (.one rfl rfl rfl rfl (.one rfl rfl rfl rfl .nil)) rfl ?_
  (refine Qq rfl rfl rfl ?_)
  refine QK gocounted (counted_ok w (s.length + t.length) t.length n (by omega) (by omega) (by omega)) rfl rfl rfl rfl ?_
  (refine Qa 5 rfl rfl rfl rfl rfl (by with_reducible exact szCn) rfl rfl ?_; refine Qy rfl rfl rfl ?_; refine Qj (hK _ _ (Qz (Q0 ?_))); clear hK K)
  refine QU [_, _] rfl (Qi (n := 5) rfl rfl (by with_reducible exact lCn) rfl (Qu rfl QQ)) (by rw [e]; rfl) rfl
theorem keyWrE : KeyT Tryz.prog 37 wrE := keyWr
theorem goAll : InGo Tryz.prog 17 := InGo.of Tryz.func17 rfl (by decide)
set_option maxHeartbeats 16000000 in
theorem All_ok (l : List Rs) (hl : l.length ≤ 10000) (n : Int) : Ok Tryz.prog 17 [rssC l, intC n] (.fr (tupT [cnsC (alO l n).1, intC (alO l n).2])) := by
  have hC := check_ok l hl
  have hT := Travel_ok l hl
  have hO := Order_ok l hl
  have hW := fun v hv r al hal => Way_ok l hl v hv r al hal
  have hwl := wayF_len l
  have e : alO l n = if n < 0 ∨ 1048576 < n then ([], 1) else if ¬ chkF l = 0 then ([], chkF l)
    else ((sd cmpW ((tickF (wayF l) (sd cmpR (l.filter okR))).map (·.1))).map (cnOf (tickF (wayF l) (sd cmpR (l.filter okR))) n), 0) := rfl
  have hol : (sd cmpR (l.filter okR)).length ≤ 10000 := by
    have := sd_len cmpR (l.filter okR)
    have := List.length_filter_le okR l
    omega
  generalize chkF l = c at hC e
  generalize wayF l = wy at hW e hwl
  generalize sd cmpR (l.filter okR) = o at hO e hol
  generalize alO l n = out at e ⊢
  generalize owF l = om at hT hW
  refine Ok.enter Tryz.func17 rfl _ Tryz.ntmps17 rfl ?_
  intro S w0
  (refine Qw (Qx fun K hK => ?_); refine Qy rfl rfl rfl ?_; refine Qy rfl rfl rfl ?_; refine Qj (hK _ _ (Qz (Qw (Qw ?_)))); clear hK K; refine Qx (fun K hK => ?_); refine Qq rfl rfl rfl ?_; refine Qk ilss rfl rfl rfl rfl ?_; refine Qq rfl rfl rfl ?_)
  refine Q6 20 rfl (fun h1 => ?_) (fun h1 => ?_)
  · rw [if_pos (.inl h1)] at e
    (refine Qv rfl rfl rfl ?_; refine Qv rfl rfl rfl ?_; refine QZ rfl rfl rfl rfl ?_; refine Qj (hK _ _ (Qz (Qn rfl (Qw ?_)))); clear hK K; refine Qx (fun K hK => ?_); refine Qy rfl rfl rfl ?_; refine Qy rfl rfl rfl ?_; refine Qj (hK _ _ (Qz (Q0 (QJ ?_)))); clear hK K)
    refine QU [_, _] rfl (X3 Z4 (Qu rfl (Qu rfl QQ))) (by rw [e]; rfl) rfl
  (refine Qq rfl rfl rfl ?_; refine Qk igtr rfl rfl rfl rfl ?_; refine QW rfl rfl rfl rfl ?_; refine Qj (hK _ _ (Qz ?_)); clear hK K)
  refine Q2 rfl (fun h2 => ?_) (fun h2 => ?_)
  · rw [if_pos (.inr h2)] at e
    (refine Qw (Qx fun K hK => ?_); refine Qy rfl rfl rfl ?_; refine Qy rfl rfl rfl ?_; refine Qj (hK _ _ (Qz (Q0 (QJ ?_)))); clear hK K)
    refine QU [_, _] rfl (X3 Z4 (Qu rfl (Qu rfl QQ))) (by rw [e]; rfl) rfl
  rw [if_neg (fun h => h.elim h1 h2)] at e
  (refine Q1 (Qz (Qw (Qw (Qx fun K hK => ?_)))); refine Qq rfl rfl rfl ?_)
  refine QK gocheck hC rfl rfl rfl rfl ?_
  (refine Qy rfl rfl rfl ?_; refine Qj (hK _ _ (Qz (Qw ?_))); clear hK K; refine Qx (fun K hK => ?_); refine Qq rfl rfl rfl ?_; refine Qk ineq rfl rfl rfl rfl ?_; refine Qj (hK _ _ (Qz ?_)); clear hK K)
  refine Q2 rfl (fun h3 => ?_) (fun h3 => ?_)
  · rw [if_pos h3] at e
    (refine Qw (Qx fun K hK => ?_); refine Qq rfl rfl rfl ?_; refine Qy rfl rfl rfl ?_; refine Qy rfl rfl rfl ?_; refine Qj (hK _ _ (Qz (Q0 (QJ ?_)))); clear hK K)
    refine QU [_, _] rfl (X3 Z4 (Qu rfl (Qu rfl QQ))) (by rw [e]; rfl) rfl
  rw [if_neg h3] at e
  (refine Q1 (Qz (Qw (Qx fun K hK => ?_))); refine Qq rfl rfl rfl ?_)
  refine Ops.callNew 8 gotravel hT rfl rfl rfl (fun _ h => h.elim) rfl rfl rfl (fun v hv => ?_)
  refine Qh 1 rfl rfl (by with_reducible exact zvTrav) rfl rfl rfl ?_
  refine Qa 2 rfl rfl rfl rfl (by show (true && (Value.oneCell' v && true)) = true; rw [hv]; rfl) (by with_reducible exact szTrav) rfl rfl ?_
  (refine Qj (hK _ _ (Qz (Qw ?_))); clear hK K; refine Qx (fun K hK => ?_))
  refine Ops.mkMap 5 rfl rfl rfl rfl rfl (fun va hva => ?_)
  (refine Qy rfl rfl rfl ?_; refine Qj (hK _ _ (Qz (Qw (Qw ?_)))); clear hK K; refine Qx (fun K hK => ?_); refine Qq rfl rfl rfl ?_)
  refine Zg 3 goOrder hO rfl rfl rfl rfl rfl rfl ?_
  refine Xp 3 _ rfl (Zz _ _) X6 ?_
  (refine Qc rfl rfl (by with_reducible exact sRes.und) (List.length_map ..) rfl ?_; refine Qq rfl rfl rfl ?_; refine Qj (hK _ _ (Qz (Q7 ?_))); clear hK K)
  refine Xy (α := Nat × KnM) (fun q => q.1 ≤ o.length ∧ knOk l q.2)
    (fun q => [(1, .ct (intC n)), (7, .own 1), (8, .ct (.ex va)), (33, .ct (rssC o)), (34, .ct (intC o.length)), (35, .ct (intC q.1))])
    (fun q => [(8, .mpx v (knM q.2)), (5, .mpx va (alKv (tickF wy (o.take q.1)))), (1, .box 94 [.fr (mapT (owM om)), .ex v])])
    (fun q => o.length - q.1) (0, []) ⟨Nat.zero_le _, fun _ _ h => by cases h⟩ (Entails.front 8 _ rfl <| by exact QX rfl ⟨rfl, rfl, rfl, rfl, rfl, rfl, trivial⟩) ?_
  intro ⟨i, m⟩ ⟨hi, hm⟩
  try dsimp only at hi hm ⊢
  (refine Qw (Qx fun K hK => ?_); refine Qk ilss rfl rfl rfl rfl ?_; refine Qj (hK _ _ (Qz (Qw ?_))); clear hK K)
  refine Q2 rfl (fun h => ?_) (fun h => ?_)
  · have e2 : (i : Int).toNat = i := Int.toNat_natCast i
    have hs : tickF wy (o.take (i + 1)) = tickR wy (tickF wy (o.take i)) (o.getD i rs0) := foldl_take (tickR wy) _ (by omega)
    have hbd := fun w => tick_bound wy w (o.take i)
    have htl : (o.take i).length ≤ 10000 := by rw [List.length_take]; omega
    (refine Q1 (Qz (Qw (Q7 (Qw (Qx fun K hK => ?_))))); refine Qo rfl rfl rfl (by with_reducible exact sRes) (by omega) (ZU (by omega) (by omega)) rfl ?_; refine XU (n := 17) rfl rfl rfl (by with_reducible exact lRes) rfl rfl ?_; refine Qh 0 rfl rfl (by with_reducible exact zvRes) rfl rfl rfl ?_; refine Qa 17 rfl rfl rfl rfl rfl (by with_reducible exact Yz) rfl rfl ?_; refine Qj (hK _ _ (Qz (Qw ?_))); clear hK K; refine Qx (fun K hK => ?_))
    rw [e2]
    generalize o.getD i rs0 = x at hs
    have hwx := hwl x
    generalize tickF wy (o.take i) = M at hs hbd ⊢
    refine Ops.mkMap 4 rfl rfl rfl rfl rfl (fun vc hvc => ?_)
    (refine Qy rfl rfl rfl ?_; refine Qj (hK _ _ (Qz (Qw ?_))); clear hK K; refine Qx (fun K hK => ?_); refine Q4 (n := 2) rfl rfl rfl rfl rfl (by with_reducible first | exact Zo | exact ZK | exact lCs) rfl ?_; refine Q4 (n := 17) rfl rfl rfl rfl rfl (by with_reducible exact lRes) rfl ?_)
    refine Ops.call1 (As := [travC om v, rsC x]) 8 goway (hW v hv x m hm) rfl rfl rfl (fun _ h => h.elim) rfl (fun p hp => absurd hp (by simp)) (fun q j hq => by rcases hq with hq | ⟨_, hq⟩ <;> cases hq) (fun m' hm' => ?_)
    (refine Qc rfl rfl (by with_reducible first | exact sTks.und | exact sWrs.und | exact sIks.und | exact sAdrs.und) (List.length_map ..) rfl ?_; refine Qq rfl rfl rfl ?_; refine Qj (hK _ _ (Qz (Q7 ?_))); clear hK K)
    refine Xy (α := Nat) (fun k => k ≤ (wy x).length)
      (fun k => [(1, .ct (intC n)), (7, .own 1), (8, .ct (.ex va)), (10, .own 0), (11, .ct (.ex vc)), (33, .ct (rssC o)), (34, .ct (intC o.length)), (35, .ct (intC i)), (42, .ct (wrsC (wy x))), (43, .ct (intC (wy x).length)), (44, .ct (intC k))])
      (fun k => [(8, .mpx v (knM m')), (4, .mpx vc (crKv (((wy x).take k).foldl (tickS x.an) (M, [])).2)), (0, .box 35 (rsCs x)), (5, .mpx va (alKv (((wy x).take k).foldl (tickS x.an) (M, [])).1)), (1, .box 94 [.fr (mapT (owM om)), .ex v])])
      (fun k => (wy x).length - k) 0 (Nat.zero_le _) (by exact QX rfl ⟨rfl, rfl, rfl, rfl, rfl, rfl, rfl, rfl, rfl, rfl, rfl, trivial⟩) ?_
    intro k hk
    try dsimp only at hk ⊢
    (refine Qw (Qx fun K hK => ?_); refine Qk ilss rfl rfl rfl rfl ?_; refine Qj (hK _ _ (Qz (Qw ?_))); clear hK K)
    refine Q2 rfl (fun h4 => ?_) (fun h4 => ?_)
    rotate_left
    · have hk' : k = (wy x).length := by omega
      have e4 : (((wy x).take k).foldl (tickS x.an) (M, [])).1 = tickR wy M x := by rw [hk', List.take_length]; rfl
      rw [e4]
      (refine Xq (Qz (Qx fun K hK => ?_)); refine Qk (iadd (by omega) (by omega)) rfl rfl rfl rfl ?_; refine Qq rfl rfl rfl ?_; refine Qj (hK _ _ (Q5 ?_)); clear hK K)
      refine Qr 4 ?_
      refine Qr 0 ?_
      refine Q9 (i + 1, m') (by dsimp only; omega) ⟨by dsimp only; omega, hm'⟩ (by dsimp only; rw [hs]; exact QX rfl ⟨rfl, rfl, rfl, rfl, rfl, by simp only [Int.natCast_add]; rfl, trivial⟩)
    have e5 : (k : Int).toNat = k := Int.toNat_natCast k
    have hst : ((wy x).take (k + 1)).foldl (tickS x.an) (M, []) = tickS x.an (((wy x).take k).foldl (tickS x.an) (M, [])) ((wy x).getD k wr0) := foldl_take (tickS x.an) _ (by omega)
    have hbs : ∀ w, 0 ≤ ((look1 (((wy x).take k).foldl (tickS x.an) (M, [])).1 w).getD (0, 0)).2 ∧ ((look1 (((wy x).take k).foldl (tickS x.an) (M, [])).1 w).getD (0, 0)).2 ≤ ((look1 (((wy x).take k).foldl (tickS x.an) (M, [])).1 w).getD (0, 0)).1 ∧ ((look1 (((wy x).take k).foldl (tickS x.an) (M, [])).1 w).getD (0, 0)).1 ≤ 10001 := fun w => by
      rw [tickS_look x.an w _ (M, []) (fun _ h => h)]
      dsimp only
      have h := hbd w
      split
      · simp only [Option.getD_some, tickV]
        split <;> omega
      · exact ⟨h.1, h.2.1, by have := h.2.2; omega⟩
    (refine Q1 (Qz (Qw (Q7 (Qw (Qx fun K hK => ?_))))))
    refine Qo rfl rfl rfl (by with_reducible exact sWrs) (by omega) (wrs_at (by omega) (by omega)) rfl ?_
    rw [e5]
    generalize (wy x).getD k wr0 = w at hst
    generalize ((wy x).take k).foldl (tickS x.an) (M, []) = s at hst hbs ⊢
    obtain ⟨s1, s2⟩ := s
    have ht : tickS x.an (s1, s2) w = if (look1 s2 w).getD false = true then (s1, s2) else (ins s1 w (tickV x.an ((look1 s1 w).getD (0, 0))), ins s2 w true) := rfl
    rw [ht] at hst
    clear ht
    dsimp only at hbs ⊢
    have hb := hbs w
    have hN : (look1 s2 w).getD false = true ∨ (look1 s2 w).getD false = false := by cases (look1 s2 w).getD false <;> simp
    refine XU (n := 2) rfl rfl rfl (by with_reducible exact ZK) rfl rfl ?_
    refine Qh 2 rfl rfl (by with_reducible exact zvWire) rfl rfl rfl ?_
    refine Qa 2 rfl rfl rfl rfl rfl (by with_reducible exact szWire) rfl rfl ?_
    (refine Qj (hK _ _ (Qz (Qw (Qw ?_)))); clear hK K; refine Qx (fun K hK => ?_); refine Qq rfl rfl rfl ?_; refine Q4 (n := 2) rfl rfl rfl rfl rfl (by with_reducible first | exact Zo | exact ZK | exact lCs) rfl ?_)
    refine Ops.lookM (i := 4) (cv := boolC) (enc := wrE) false w rfl rfl rfl rfl (KeyIs.agg (us := wr2 w) rfl) uMCr z0Bool (fun _ _ => rfl) keyWrE rfl ?_
    (refine Qj (hK _ _ (Qz ?_)); clear hK K)
    refine XQ rfl (fun h5 => ?_) (fun h5 => ?_)
    · rw [if_pos h5] at hst
      (refine Xq (Qz (Qx fun K hK => ?_)); refine Qk (iadd (by omega) (by omega)) rfl rfl rfl rfl ?_; refine Qq rfl rfl rfl ?_; refine Qj (hK _ _ (Q5 ?_)); clear hK K)
      refine Qr 2 ?_
      refine Q9 (k + 1) (by omega) (by omega) (by rw [hst]; exact QX rfl ⟨rfl, rfl, rfl, rfl, rfl, rfl, rfl, rfl, rfl, rfl, by simp only [Int.natCast_add]; rfl, trivial⟩)
    rw [if_neg (by rw [h5]; decide)] at hst
    (refine Q1 (Qz (Qw (Qx fun K hK => ?_))); refine Qq rfl rfl rfl ?_; refine Q4 (n := 2) rfl rfl rfl rfl rfl (by with_reducible first | exact Zo | exact ZK | exact lCs) rfl ?_)
    refine Xz (i := 4) (enc := wrE) (cv := boolC) w true rfl rfl rfl (KeyIs.agg (us := wr2 w) rfl) rfl uMCr keyWrE ?_
    (refine Qj (hK _ _ (Qz (Qw ?_))); clear hK K; refine Qx (fun K hK => ?_); refine Qq rfl rfl rfl ?_; refine Q4 (n := 2) rfl rfl rfl rfl rfl (by with_reducible first | exact Zo | exact ZK | exact lCs) rfl ?_)
    refine Ops.lookM (i := 5) (cv := csC) (enc := wrE) (0, 0) w rfl rfl rfl rfl (KeyIs.agg (us := wr2 w) rfl) uMAll z0Cs csZ keyWrE rfl ?_
    generalize (look1 s1 w).getD (0, 0) = cc at hst hb
    obtain ⟨c1, c2⟩ := cc
    dsimp only at hb
    unfold tickV at hst
    dsimp only at hst
    refine Qh 3 rfl rfl (by with_reducible exact zvCs) rfl rfl rfl ?_
    refine Qa 2 rfl rfl rfl rfl rfl (by with_reducible exact szCs) rfl rfl ?_
    (refine Qj (hK _ _ (Qz (Qw ?_))); clear hK K; refine Qx (fun K hK => ?_); refine QV rfl rfl rfl (by with_reducible first | exact fTk0 | exact fTk1 | exact fTk2 | exact fWr0 | exact fWr1 | exact X1 | exact X0 | exact Xi | exact fStm1 | exact fCn0 | exact fCn1 | exact fCn2 | exact fCn3 | exact fCs0 | exact fCs1) rfl ?_; refine QY rfl rfl rfl rfl rfl (by with_reducible first | exact lInt | exact Qd | exact Q8 | exact lRess) rfl ?_; refine Qk (iadd (by omega) (by omega)) rfl rfl rfl rfl ?_; refine QV rfl rfl rfl (by with_reducible first | exact fTk0 | exact fTk1 | exact fTk2 | exact fWr0 | exact fWr1 | exact X1 | exact X0 | exact Xi | exact fStm1 | exact fCn0 | exact fCn1 | exact fCn2 | exact fCn3 | exact fCs0 | exact fCs1) rfl ?_; refine Xc rfl rfl rfl rfl rfl (by with_reducible first | exact zInt | exact zAddr | exact zClaims) (Nat.le_of_ble_eq_true rfl) ?_; refine Qj (hK _ _ (Qz (Qw (Qw ?_)))); clear hK K; refine Qx (fun K hK => ?_); refine QV rfl rfl rfl (by with_reducible first | exact fS0 | exact fS1 | exact fS2 | exact fS3 | exact fS4 | exact fS5 | exact fS6 | exact fS7 | exact fS8 | exact fS9 | exact fS10 | exact fS11 | exact fN0 | exact fN1 | exact fN2 | exact fN3 | exact fN4 | exact fN5) rfl ?_; refine QY rfl rfl rfl rfl rfl (by with_reducible first | exact lInt | exact Qd | exact Q8 | exact lRess) rfl ?_; refine Qm rfl rfl rfl ?_; refine Qj (hK _ _ (Qz ?_)); clear hK K)
    refine XQ rfl (fun h6 => ?_) (fun h6 => ?_)
    · rw [if_neg (by simpa using h6)] at hst
      (refine Qx (fun K hK => ?_); refine QV rfl rfl rfl (by with_reducible first | exact fTk0 | exact fTk1 | exact fTk2 | exact fWr0 | exact fWr1 | exact X1 | exact X0 | exact Xi | exact fStm1 | exact fCn0 | exact fCn1 | exact fCn2 | exact fCn3 | exact fCs0 | exact fCs1) rfl ?_; refine QY rfl rfl rfl rfl rfl (by with_reducible first | exact lInt | exact Qd | exact Q8 | exact lRess) rfl ?_; refine Qk (iadd (by omega) (by omega)) rfl rfl rfl rfl ?_; refine QV rfl rfl rfl (by with_reducible first | exact fTk0 | exact fTk1 | exact fTk2 | exact fWr0 | exact fWr1 | exact X1 | exact X0 | exact Xi | exact fStm1 | exact fCn0 | exact fCn1 | exact fCn2 | exact fCn3 | exact fCs0 | exact fCs1) rfl ?_; refine Xc rfl rfl rfl rfl rfl (by with_reducible first | exact zInt | exact zAddr | exact zClaims) (Nat.le_of_ble_eq_true rfl) ?_; refine Qj (hK _ _ (Qz ?_)); clear hK K; refine Qx (fun K hK => ?_); refine Qq rfl rfl rfl ?_; refine Q4 (n := 2) rfl rfl rfl rfl rfl (by with_reducible first | exact Zo | exact ZK | exact lCs) rfl ?_; refine Q4 (n := 2) rfl rfl rfl rfl rfl (by with_reducible first | exact Zo | exact ZK | exact lCs) rfl ?_)
      refine Xz (i := 5) (enc := wrE) (cv := csC) w (c1 + 1, c2 + 1) rfl rfl rfl (KeyIs.agg (us := wr2 w) rfl) rfl uMAll keyWrE ?_
      (refine Qj (hK _ _ (Qz ?_)); clear hK K; refine Qx (fun K hK => ?_); refine Qk (iadd (by omega) (by omega)) rfl rfl rfl rfl ?_; refine Qq rfl rfl rfl ?_; refine Qj (hK _ _ (Q5 ?_)); clear hK K)
      refine Qr 3 ?_
      refine Qr 2 ?_
      refine Q9 (k + 1) (by omega) (by omega) (by rw [hst]; exact QX rfl ⟨rfl, rfl, rfl, rfl, rfl, rfl, rfl, rfl, rfl, rfl, by simp only [Int.natCast_add]; rfl, trivial⟩)
    · rw [if_pos (by simpa using h6)] at hst
      (refine Q1 (Qz (Qx fun K hK => ?_)); refine Qq rfl rfl rfl ?_; refine Q4 (n := 2) rfl rfl rfl rfl rfl (by with_reducible first | exact Zo | exact ZK | exact lCs) rfl ?_; refine Q4 (n := 2) rfl rfl rfl rfl rfl (by with_reducible first | exact Zo | exact ZK | exact lCs) rfl ?_)
      refine Xz (i := 5) (enc := wrE) (cv := csC) w (c1 + 1, c2) rfl rfl rfl (KeyIs.agg (us := wr2 w) rfl) rfl uMAll keyWrE ?_
      (refine Qj (hK _ _ (Qz ?_)); clear hK K; refine Qx (fun K hK => ?_); refine Qk (iadd (by omega) (by omega)) rfl rfl rfl rfl ?_; refine Qq rfl rfl rfl ?_; refine Qj (hK _ _ (Q5 ?_)); clear hK K)
      refine Qr 3 ?_
      refine Qr 2 ?_
      refine Q9 (k + 1) (by omega) (by omega) (by rw [hst]; exact QX rfl ⟨rfl, rfl, rfl, rfl, rfl, rfl, rfl, rfl, rfl, rfl, by simp only [Int.natCast_add]; rfl, trivial⟩)
  have hi' : i = o.length := by omega
  rw [hi', List.take_length]
  have hMn : ((tickF wy o).map (·.1)).Nodup := tickF_nodup wy o [] List.nodup_nil
  have hMl := tickF_len wy 256 hwl o []
  have hMl : (tickF wy o).length ≤ 2560000 := by
    have h9 : (tickF wy o).length ≤ 0 + o.length * 256 := hMl
    omega
  have hbd := fun w => tick_bound wy w o
  have hsl : (sd cmpW ((tickF wy o).map (·.1))).length ≤ 2560000 := by
    have := sd_len cmpW ((tickF wy o).map (·.1))
    rw [List.length_map] at this
    omega
  have hSW := SortedW_ok csC (tickF wy o) (by omega) hMn
  generalize sd cmpW ((tickF wy o).map (·.1)) = ws at e hSW hsl
  generalize tickF wy o = M at e hSW hbd ⊢
  refine St.frzMs 5 8 rfl rfl X6 ?_
  (refine Xq (Qz (Qw (Qx fun K hK => ?_))); refine Qy rfl rfl rfl ?_; refine Qj (hK _ _ (Qz (Qw (Qw ?_)))); clear hK K; refine Qx (fun K hK => ?_); refine Qq rfl rfl rfl ?_)
  refine QK goKeys (Keys_ok (alKv M)) rfl rfl rfl rfl ?_
  refine Zg 4 goSortedW hSW rfl rfl rfl rfl rfl rfl ?_
  refine Xp 4 _ rfl (wrs_frozen _ _) X6 ?_
  (refine Qc rfl rfl (by with_reducible first | exact sTks.und | exact sWrs.und | exact sIks.und | exact sAdrs.und) (List.length_map ..) rfl ?_; refine Qq rfl rfl rfl ?_; refine Qj (hK _ _ (Qz (Q7 ?_))); clear hK K)
  refine Zq 15 7 39 5 rfl rfl rfl ?_
  refine Xy (α := Nat) (fun j => j ≤ ws.length)
    (fun j => [(1, .ct (intC n)), (8, .ct (.fr (mapT (alKv M)))), (15, .own 7), (74, .ct (wrsC ws)), (75, .ct (intC ws.length)), (76, .ct (intC j))])
    (fun j => [(7, .row 39 5 (cns ((ws.take j).map (cnOf M n)))), (8, .mpx v (knM m)), (1, .box 94 [.fr (mapT (owM om)), .ex v])])
    (fun j => ws.length - j) 0 (Nat.zero_le _) (by exact QX rfl ⟨rfl, rfl, rfl, rfl, rfl, rfl, trivial⟩) ?_
  intro j hj
  try dsimp only at hj ⊢
  (refine Qw (Qx fun K hK => ?_); refine Qk ilss rfl rfl rfl rfl ?_; refine Qj (hK _ _ (Qz (Qw ?_))); clear hK K)
  refine Q2 rfl (fun h4 => ?_) (fun h4 => ?_)
  · have e2 : (j : Int).toNat = j := Int.toNat_natCast j
    have hs : (ws.take (j + 1)).map (cnOf M n) = (ws.take j).map (cnOf M n) ++ [cnOf M n (ws.getD j wr0)] := by
      rw [List.take_add_one, List.getElem?_eq_getElem (by omega), List.getD_eq_getElem?_getD, List.getElem?_eq_getElem (by omega), List.map_append]; rfl
    have hlt : ((ws.take j).map (cnOf M n)).length = j := by rw [List.length_map, List.length_take]; omega
    (refine Q1 (Qz (Qw (Q7 (Qw (Qx fun K hK => ?_))))))
    refine Qo rfl rfl rfl (by with_reducible exact sWrs) (by omega) (wrs_at (by omega) (by omega)) rfl ?_
    rw [e2]
    generalize ws.getD j wr0 = w at hs
    generalize (ws.take j).map (cnOf M n) = q at hs hlt ⊢
    have hb := hbd w
    have hcn : cnOf M n w = ⟨w, ((look1 M w).getD (0, 0)).1, max 0 (((look1 M w).getD (0, 0)).2 - n), ((look1 M w).getD (0, 0)).2⟩ := rfl
    rw [hcn] at hs
    refine XU (n := 2) rfl rfl rfl (by with_reducible exact ZK) rfl rfl ?_
    refine Qh 2 rfl rfl (by with_reducible exact zvWire) rfl rfl rfl ?_
    refine Qa 2 rfl rfl rfl rfl rfl (by with_reducible exact szWire) rfl rfl ?_
    (refine Qj (hK _ _ (Qz ?_)); clear hK K)
    refine XY (by with_reducible exact mixed) 8 (.p 0 (.p 2 (.p 5 (.fork 1 (.m 3 (.m 4 (.m 6 (.m 7 (.a 8 (.p 9 .done)))))) 3 (.fork 1 (.m 4 (.m 6 (.m 7 (.a 8 (.p 9 .done))))) 4 (.m 1 (.m 6 (.m 7 (.a 8 (.p 9 .done)))))))))) (by kernel_rfl) (fun K hK => ?_)
    (refine Qq rfl rfl rfl ?_; refine Qq rfl rfl rfl ?_; refine Qq rfl rfl rfl ?_)
    refine Yu ?_ ?_
    · (refine Q4 (n := 2) rfl rfl rfl rfl rfl (by with_reducible first | exact Zo | exact ZK | exact lCs) rfl ?_; refine Q4 (n := 2) rfl rfl rfl rfl rfl (by with_reducible first | exact Zo | exact ZK | exact lCs) rfl ?_)
      refine Ops.lookF (cv := csC) (enc := wrE) (0, 0) w rfl rfl rfl (KeyIs.agg (us := wr2 w) rfl) uMAll z0Cs csZ keyWrE rfl ?_
      skip
      refine QK gocounted (counted_ok w ((look1 M w).getD (0, 0)).1 ((look1 M w).getD (0, 0)).2 n (by omega) (by omega) (by omega)) rfl rfl rfl rfl ?_
      refine X9 (n := 5) rfl rfl (by with_reducible exact sCns) rfl rfl (by decide) rfl ?_
      refine Qs j (cns (q ++ [⟨w, ((look1 M w).getD (0, 0)).1, max 0 (((look1 M w).getD (0, 0)).2 - n), ((look1 M w).getD (0, 0)).2⟩])) rfl rfl rfl rfl (by with_reducible exact sCns) (by rw [cns_len, hlt]) rfl (by omega) (by omega) (cns_snoc _ _) rfl ?_
      (refine Qy rfl rfl rfl ?_; refine Qj (hK _ _ (Qz ?_)); clear hK K; refine Qx (fun K hK => ?_); refine Qk (iadd (by omega) (by omega)) rfl rfl rfl rfl ?_; refine Qq rfl rfl rfl ?_; refine Qj (hK _ _ (Q5 ?_)); clear hK K)
      refine Qr 2 ?_
      refine Q9 (j + 1) (by omega) (by omega) (by rw [hs]; exact QX rfl ⟨rfl, rfl, rfl, rfl, rfl, by simp only [Int.natCast_add]; rfl, trivial⟩)
    · (refine Q4 (n := 2) rfl rfl rfl rfl rfl (by with_reducible first | exact Zo | exact ZK | exact lCs) rfl ?_)
      refine Yu ?_ ?_
      · (refine Q4 (n := 2) rfl rfl rfl rfl rfl (by with_reducible first | exact Zo | exact ZK | exact lCs) rfl ?_)
        refine Ops.lookF (cv := csC) (enc := wrE) (0, 0) w rfl rfl rfl (KeyIs.agg (us := wr2 w) rfl) uMAll z0Cs csZ keyWrE rfl ?_
        skip
        refine QK gocounted (counted_ok w ((look1 M w).getD (0, 0)).1 ((look1 M w).getD (0, 0)).2 n (by omega) (by omega) (by omega)) rfl rfl rfl rfl ?_
        refine X9 (n := 5) rfl rfl (by with_reducible exact sCns) rfl rfl (by decide) rfl ?_
        refine Qs j (cns (q ++ [⟨w, ((look1 M w).getD (0, 0)).1, max 0 (((look1 M w).getD (0, 0)).2 - n), ((look1 M w).getD (0, 0)).2⟩])) rfl rfl rfl rfl (by with_reducible exact sCns) (by rw [cns_len, hlt]) rfl (by omega) (by omega) (cns_snoc _ _) rfl ?_
        (refine Qy rfl rfl rfl ?_; refine Qj (hK _ _ (Qz ?_)); clear hK K; refine Qx (fun K hK => ?_); refine Qk (iadd (by omega) (by omega)) rfl rfl rfl rfl ?_; refine Qq rfl rfl rfl ?_; refine Qj (hK _ _ (Q5 ?_)); clear hK K)
        refine Qr 2 ?_
        refine Q9 (j + 1) (by omega) (by omega) (by rw [hs]; exact QX rfl ⟨rfl, rfl, rfl, rfl, rfl, by simp only [Int.natCast_add]; rfl, trivial⟩)
      · skip
        refine Ops.lookF (cv := csC) (enc := wrE) (0, 0) w rfl rfl rfl (KeyIs.agg (us := wr2 w) rfl) uMAll z0Cs csZ keyWrE rfl ?_
        (refine Q4 (n := 2) rfl rfl rfl rfl rfl (by with_reducible first | exact Zo | exact ZK | exact lCs) rfl ?_)
        refine QK gocounted (counted_ok w ((look1 M w).getD (0, 0)).1 ((look1 M w).getD (0, 0)).2 n (by omega) (by omega) (by omega)) rfl rfl rfl rfl ?_
        refine X9 (n := 5) rfl rfl (by with_reducible exact sCns) rfl rfl (by decide) rfl ?_
        refine Qs j (cns (q ++ [⟨w, ((look1 M w).getD (0, 0)).1, max 0 (((look1 M w).getD (0, 0)).2 - n), ((look1 M w).getD (0, 0)).2⟩])) rfl rfl rfl rfl (by with_reducible exact sCns) (by rw [cns_len, hlt]) rfl (by omega) (by omega) (cns_snoc _ _) rfl ?_
        (refine Qy rfl rfl rfl ?_; refine Qj (hK _ _ (Qz ?_)); clear hK K; refine Qx (fun K hK => ?_); refine Qk (iadd (by omega) (by omega)) rfl rfl rfl rfl ?_; refine Qq rfl rfl rfl ?_; refine Qj (hK _ _ (Q5 ?_)); clear hK K)
        refine Qr 2 ?_
        refine Q9 (j + 1) (by omega) (by omega) (by rw [hs]; exact QX rfl ⟨rfl, rfl, rfl, rfl, rfl, by simp only [Int.natCast_add]; rfl, trivial⟩)
  have hj' : j = ws.length := by omega
  rw [hj', List.take_length]
  generalize ws.map (cnOf M n) = r at e ⊢
  (refine Xq (Qz (Qw (Qx fun K hK => ?_))); refine Qq rfl rfl rfl ?_; refine Qy rfl rfl rfl ?_; refine Qy rfl rfl rfl ?_; refine Qj (hK _ _ (Qz (Q0 ?_))); clear hK K)
  refine Yy 7 _ rfl (cns_frozen _ _) X6 ?_
  refine QU [_, _] rfl (Qu rfl (Qu rfl QQ)) (by rw [e]; rfl) rfl
def fnS (id : Ik) (s : Rs × Bool) (r : Rs) : Rs × Bool := if idOf r = id ∧ (s.2 = false ∨ cmpR r s.1 < 0) ∧ okR r = true then (r, true) else s
def findF (l : List Rs) (id : Ik) : Rs × Bool := l.foldl (fnS id) (rs0, false)
theorem goFind : InGo Tryz.prog 111 := InGo.of Tryz.func111 rfl (by decide)
set_option maxHeartbeats 8000000 in
theorem Find_ok (l : List Rs) (hl : l.length ≤ 1000000) (id : Ik) : Ok Tryz.prog 111 [rssC l, ikC id] (.fr (tupT [rsC (findF l id).1, boolC (findF l id).2])) := by
  refine Ok.enter Tryz.func111 rfl _ Tryz.ntmps111 rfl ?_
  intro S w
  refine Qw ?_
  refine Qx (fun K hK => ?_)
  refine Xu 0 rfl rfl rfl rfl rfl rfl rfl ?_
  refine Qh 1 rfl rfl (by with_reducible exact zvRes) rfl rfl rfl ?_
  (refine Qy rfl rfl rfl ?_; refine Qj (hK _ _ (Qz (Qw ?_))); clear hK K; refine Qx (fun K hK => ?_); refine Qh 2 rfl rfl (by with_reducible exact zvRes) rfl rfl rfl ?_; refine Qj (hK _ _ (Qz (Qw ?_))); clear hK K; refine Qx (fun K hK => ?_); refine Qy rfl rfl rfl ?_; refine Qj (hK _ _ (Qz (Qw (Qw ?_)))); clear hK K; refine Qx (fun K hK => ?_); refine Qq rfl rfl rfl ?_; refine Qc rfl rfl (by with_reducible exact sRes.und) (List.length_map ..) rfl ?_; refine Qq rfl rfl rfl ?_; refine Qj (hK _ _ (Qz (Q7 ?_))); clear hK K)
  refine Xy (α := Nat) (fun i => i ≤ l.length) (fun i => [(3, .own 0), (4, .own 1), (6, .own 2), (7, .ct (boolC ((l.take i).foldl (fnS id) (rs0, false)).2)), (10, .ct (rssC l)), (11, .ct (intC l.length)), (12, .ct (intC i))])
    (fun i => [(2, .box 35 (rsCs ((l.take i).foldl (fnS id) (rs0, false)).1)), (1, .box 35 (List.map CT.ex zRes.cells.toList)), (0, .box 124 (ikCs id))]) (fun i => l.length - i) 0 (Nat.zero_le _) (by exact QX rfl ⟨rfl, rfl, rfl, rfl, rfl, rfl, rfl, trivial⟩) ?_
  intro i hi
  try dsimp only at hi ⊢
  (refine Qw (Qx fun K hK => ?_); refine Qk ilss rfl rfl rfl rfl ?_; refine Qj (hK _ _ (Qz (Qw ?_))); clear hK K)
  refine Q2 rfl (fun h => ?_) (fun h => ?_)
  rotate_left
  · have hi' : i = l.length := by omega
    rw [hi', List.take_length]
    have e : findF l id = l.foldl (fnS id) (rs0, false) := rfl
    rw [e]
    generalize l.foldl (fnS id) (rs0, false) = s
    obtain ⟨b, f⟩ := s
    (refine Xq (Qz (Qw (Qx fun K hK => ?_))); refine Q4 (n := 17) rfl rfl rfl rfl rfl (by with_reducible exact lRes) rfl ?_; refine Qq rfl rfl rfl ?_; refine Qa 17 rfl rfl rfl rfl rfl (by with_reducible exact Yz) rfl rfl ?_; refine Qy rfl rfl rfl ?_; refine Qj (hK _ _ (Qz (Q0 ?_))); clear hK K)
    refine QU [_, _] rfl (Qi (n := 17) rfl rfl (by with_reducible exact lRes) rfl (Qu rfl QQ)) rfl rfl
  have e2 : (i : Int).toNat = i := Int.toNat_natCast i
  have hs : (l.take (i + 1)).foldl (fnS id) (rs0, false) = fnS id ((l.take i).foldl (fnS id) (rs0, false)) (l.getD i rs0) := foldl_take (fnS id) _ (by omega)
  (refine Q1 (Qz (Qw (Q7 (Qw (Qx fun K hK => ?_))))); refine Qo rfl rfl rfl (by with_reducible exact sRes) (by omega) (ZU (by omega) (by omega)) rfl ?_; refine XU (n := 17) rfl rfl rfl (by with_reducible exact lRes) rfl rfl ?_)
  rw [e2]
  generalize l.getD i rs0 = r at hs
  generalize (l.take i).foldl (fnS id) (rs0, false) = s at hs ⊢
  obtain ⟨b, f⟩ := s
  have ht : fnS id (b, f) r = if idOf r = id ∧ (f = false ∨ cmpR r b < 0) ∧ okR r = true then (r, true) else (b, f) := rfl
  rw [ht] at hs
  clear ht
  dsimp only
  skip
  refine Qh 3 rfl rfl (by with_reducible exact zvRes) rfl rfl rfl ?_
  refine Qa 17 rfl rfl rfl rfl rfl (by with_reducible exact Yz) rfl rfl ?_
  (refine Qj (hK _ _ (Qz (Qw ?_))); clear hK K)
  cases f with
  | false =>
    refine XY (by with_reducible exact mixed) 18 (.f 0 (.f 2 (.m 1 (.p 3 (.p 4 (.p 5 (.p 6 (.p 7 (.f 8 (.f 9 (.m 10 (.p 11 (.p 12 (.p 13 (.p 14 (.f 15 (.m 16 (.p 17 .done)))))))))))))))))) (by kernel_rfl) (fun K hK => ?_)
    (refine Q4 (n := 17) rfl rfl rfl rfl rfl (by with_reducible exact lRes) rfl ?_)
    refine Q4 (n := 3) rfl rfl rfl rfl rfl (by with_reducible exact lID) rfl ?_
    refine QK Z6 (Zf r) rfl rfl rfl rfl ?_
    refine eqIk (idOf r) id rfl rfl rfl rfl rfl ?_
    (refine Qq rfl rfl rfl ?_)
    refine Q6 20 rfl (fun g1 => ?_) (fun g1 => ?_)
    · (refine Qq rfl rfl rfl ?_; refine Qm rfl rfl rfl ?_; refine Qq rfl rfl rfl ?_; refine Qv rfl rfl rfl ?_; refine Qv rfl rfl rfl ?_; refine Qv rfl rfl rfl ?_; refine Qv rfl rfl rfl ?_; refine QZ rfl rfl rfl rfl ?_; refine QZ rfl rfl rfl rfl ?_; refine Qq rfl rfl rfl ?_; refine Q4 (n := 17) rfl rfl rfl rfl rfl (by with_reducible exact lRes) rfl ?_)
      refine QK goValidR (ValidR_ok r) rfl rfl rfl rfl ?_
      (refine QZ rfl rfl rfl rfl ?_; refine Qj (hK _ _ (Qz ?_)); clear hK K)
      refine XQ rfl (fun g => ?_) (fun g => ?_)
      · rw [if_pos ⟨g1, .inl rfl, g⟩] at hs
        (refine Qx (fun K hK => ?_); refine Q4 (n := 17) rfl rfl rfl rfl rfl (by with_reducible exact lRes) rfl ?_; refine Qa 17 rfl rfl rfl rfl rfl (by with_reducible exact Yz) rfl rfl ?_; refine Qy rfl rfl rfl ?_; refine Qj (hK _ _ (Qz ?_)); clear hK K; refine Qx (fun K hK => ?_); refine Qk (iadd (by omega) (by omega)) rfl rfl rfl rfl ?_; refine Qq rfl rfl rfl ?_; refine Qj (hK _ _ (Q5 ?_)); clear hK K)
        refine Qr 3 ?_
        refine Q9 (i + 1) (by omega) (by omega) (by rw [hs]; exact QX rfl ⟨rfl, rfl, rfl, rfl, rfl, rfl, by simp only [Int.natCast_add]; rfl, trivial⟩)
      · rw [if_neg (fun h => by rw [h.2.2] at g; cases g)] at hs
        (refine Q1 (Qz (Qx fun K hK => ?_)); refine Qk (iadd (by omega) (by omega)) rfl rfl rfl rfl ?_; refine Qq rfl rfl rfl ?_; refine Qj (hK _ _ (Q5 ?_)); clear hK K)
        refine Qr 3 ?_
        refine Q9 (i + 1) (by omega) (by omega) (by rw [hs]; exact QX rfl ⟨rfl, rfl, rfl, rfl, rfl, rfl, by simp only [Int.natCast_add]; rfl, trivial⟩)
    · rw [if_neg (fun h => g1 h.1)] at hs
      (refine Qv rfl rfl rfl ?_; refine Qv rfl rfl rfl ?_; refine Qv rfl rfl rfl ?_; refine Qv rfl rfl rfl ?_; refine Qv rfl rfl rfl ?_; refine Qv rfl rfl rfl ?_; refine Qv rfl rfl rfl ?_; refine Qv rfl rfl rfl ?_; refine QW rfl rfl rfl rfl ?_; refine Qq rfl rfl rfl ?_; refine Qv rfl rfl rfl ?_; refine Qv rfl rfl rfl ?_; refine QW rfl rfl rfl rfl ?_; refine Qj (hK _ _ (Qz (Xv rfl (Q1 (Qz ?_))))); clear hK K; refine Qx (fun K hK => ?_); refine Qk (iadd (by omega) (by omega)) rfl rfl rfl rfl ?_; refine Qq rfl rfl rfl ?_; refine Qj (hK _ _ (Q5 ?_)); clear hK K)
      refine Qr 3 ?_
      refine Q9 (i + 1) (by omega) (by omega) (by rw [hs]; exact QX rfl ⟨rfl, rfl, rfl, rfl, rfl, rfl, by simp only [Int.natCast_add]; rfl, trivial⟩)
  | true =>
    refine XY (by with_reducible exact mixed) 18 (.f 0 (.f 2 (.m 1 (.p 3 (.p 4 (.p 5 (.p 6 (.p 7 (.f 8 (.f 9 (.m 10 (.p 11 (.p 12 (.p 13 (.p 14 (.f 15 (.m 16 (.p 17 .done)))))))))))))))))) (by kernel_rfl) (fun K hK => ?_)
    (refine Q4 (n := 17) rfl rfl rfl rfl rfl (by with_reducible exact lRes) rfl ?_)
    refine Q4 (n := 3) rfl rfl rfl rfl rfl (by with_reducible exact lID) rfl ?_
    refine QK Z6 (Zf r) rfl rfl rfl rfl ?_
    refine eqIk (idOf r) id rfl rfl rfl rfl rfl ?_
    (refine Qq rfl rfl rfl ?_)
    refine Q6 20 rfl (fun g1 => ?_) (fun g1 => ?_)
    · (refine Qq rfl rfl rfl ?_; refine Qm rfl rfl rfl ?_; refine Qq rfl rfl rfl ?_; refine Q4 (n := 17) rfl rfl rfl rfl rfl (by with_reducible exact lRes) rfl ?_; refine Q4 (n := 17) rfl rfl rfl rfl rfl (by with_reducible exact lRes) rfl ?_)
      refine QK goCmpR (cmpR_ok r b) rfl rfl rfl rfl ?_
      (refine Qk ilss rfl rfl rfl rfl ?_; refine QW rfl rfl rfl rfl ?_; refine QZ rfl rfl rfl rfl ?_; refine Qq rfl rfl rfl ?_)
      refine Q6 30 rfl (fun g2 => ?_) (fun g2 => ?_)
      · (refine Q4 (n := 17) rfl rfl rfl rfl rfl (by with_reducible exact lRes) rfl ?_)
        refine QK goValidR (ValidR_ok r) rfl rfl rfl rfl ?_
        (refine QZ rfl rfl rfl rfl ?_; refine Qj (hK _ _ (Qz ?_)); clear hK K)
        refine XQ rfl (fun g => ?_) (fun g => ?_)
        · rw [if_pos ⟨g1, .inr g2, g⟩] at hs
          (refine Qx (fun K hK => ?_); refine Q4 (n := 17) rfl rfl rfl rfl rfl (by with_reducible exact lRes) rfl ?_; refine Qa 17 rfl rfl rfl rfl rfl (by with_reducible exact Yz) rfl rfl ?_; refine Qy rfl rfl rfl ?_; refine Qj (hK _ _ (Qz ?_)); clear hK K; refine Qx (fun K hK => ?_); refine Qk (iadd (by omega) (by omega)) rfl rfl rfl rfl ?_; refine Qq rfl rfl rfl ?_; refine Qj (hK _ _ (Q5 ?_)); clear hK K)
          refine Qr 3 ?_
          refine Q9 (i + 1) (by omega) (by omega) (by rw [hs]; exact QX rfl ⟨rfl, rfl, rfl, rfl, rfl, rfl, by simp only [Int.natCast_add]; rfl, trivial⟩)
        · rw [if_neg (fun h => by rw [h.2.2] at g; cases g)] at hs
          (refine Q1 (Qz (Qx fun K hK => ?_)); refine Qk (iadd (by omega) (by omega)) rfl rfl rfl rfl ?_; refine Qq rfl rfl rfl ?_; refine Qj (hK _ _ (Q5 ?_)); clear hK K)
          refine Qr 3 ?_
          refine Q9 (i + 1) (by omega) (by omega) (by rw [hs]; exact QX rfl ⟨rfl, rfl, rfl, rfl, rfl, rfl, by simp only [Int.natCast_add]; rfl, trivial⟩)
      · rw [if_neg (fun h => h.2.1.elim (fun h => by cases h) g2)] at hs
        (refine Qv rfl rfl rfl ?_; refine Qv rfl rfl rfl ?_; refine QW rfl rfl rfl rfl ?_; refine Qj (hK _ _ (Qz (Xv rfl (Q1 (Qz ?_))))); clear hK K; refine Qx (fun K hK => ?_); refine Qk (iadd (by omega) (by omega)) rfl rfl rfl rfl ?_; refine Qq rfl rfl rfl ?_; refine Qj (hK _ _ (Q5 ?_)); clear hK K)
        refine Qr 3 ?_
        refine Q9 (i + 1) (by omega) (by omega) (by rw [hs]; exact QX rfl ⟨rfl, rfl, rfl, rfl, rfl, rfl, by simp only [Int.natCast_add]; rfl, trivial⟩)
    · rw [if_neg (fun h => g1 h.1)] at hs
      (refine Qv rfl rfl rfl ?_; refine Qv rfl rfl rfl ?_; refine Qv rfl rfl rfl ?_; refine Qv rfl rfl rfl ?_; refine Qv rfl rfl rfl ?_; refine Qv rfl rfl rfl ?_; refine Qv rfl rfl rfl ?_; refine Qv rfl rfl rfl ?_; refine QW rfl rfl rfl rfl ?_; refine Qq rfl rfl rfl ?_; refine Qv rfl rfl rfl ?_; refine Qv rfl rfl rfl ?_; refine QW rfl rfl rfl rfl ?_; refine Qj (hK _ _ (Qz (Xv rfl (Q1 (Qz ?_))))); clear hK K; refine Qx (fun K hK => ?_); refine Qk (iadd (by omega) (by omega)) rfl rfl rfl rfl ?_; refine Qq rfl rfl rfl ?_; refine Qj (hK _ _ (Q5 ?_)); clear hK K)
      refine Qr 3 ?_
      refine Q9 (i + 1) (by omega) (by omega) (by rw [hs]; exact QX rfl ⟨rfl, rfl, rfl, rfl, rfl, rfl, by simp only [Int.natCast_add]; rfl, trivial⟩)
def lsG (l : List Rs) (w : Wr) (an : Bool) : Bool → Rs → List Ik → Bool
  | _, _, [] => true
  | p, last, id :: ids => if (findF l id).2 = false ∨ (findF l id).1.an ≠ an ∨ ¬ w ∈ wayF l (findF l id).1 ∨ (p = true ∧ 0 ≤ cmpR last (findF l id).1) then false else lsG l w an true (findF l id).1 ids
theorem golisted : InGo Tryz.prog 68 := InGo.of Tryz.func68 rfl (by decide)
set_option maxHeartbeats 16000000 in
theorem listed_ok (l : List Rs) (hl : l.length ≤ 10000) (v : Value) (hv : v.oneCell' = true) (w : Wr) (ids : List Ik) (hids : ids.length ≤ 9223372036854775806) (an : Bool) (al : KnM) (hal : knOk l al) :
    OkM Tryz.prog 68 [.ct (rssC l), .ct (travC (owF l) v), .ct (wrC w), .ct (iksC ids), .ct (boolC an)] [(8, .mpx v (knM al))] [] (fun m : KnM => knOk l m) (fun _ => .ct (boolC (lsG l w an false rs0 ids))) (fun m => [(8, .mpx v (knM m))]) := by
  have hF := fun id => Find_ok l (by omega) id
  have hW := fun r (m : KnM) hm => Way_ok l hl v hv r m hm
  have hwl := wayF_len l
  have hstep : ∀ p last id ids, lsG l w an p last (id :: ids) = if (findF l id).2 = false ∨ (findF l id).1.an ≠ an ∨ ¬ w ∈ wayF l (findF l id).1 ∨ (p = true ∧ 0 ≤ cmpR last (findF l id).1) then false else lsG l w an true (findF l id).1 ids := fun _ _ _ _ => rfl
  have hend : ∀ p last, lsG l w an p last [] = true := fun _ _ => rfl
  generalize lsG l w an = ls at hstep hend ⊢
  generalize findF l = fd at hF hstep
  generalize wayF l = wy at hW hwl hstep
  generalize owF l = om at hW ⊢
  refine OkM.enter Tryz.func68 rfl _ Tryz.ntmps68 rfl (fun i hi => by cases hi) ?_
  intro S w0 ρ0 hbor
  refine Qw ?_
  refine Qx (fun K hK => ?_)
  refine Xu 0 rfl rfl rfl (by show (true && (Value.oneCell' v && true)) = true; rw [hv]; rfl) rfl rfl rfl ?_
  refine Xu 1 rfl rfl rfl rfl rfl rfl rfl ?_
  (refine Qy rfl rfl rfl ?_; refine Qj (hK _ _ (Qz (Qw ?_))); clear hK K; refine Qx (fun K hK => ?_); refine Qh 2 rfl rfl (by with_reducible exact zvRes) rfl rfl rfl ?_; refine Qj (hK _ _ (Qz (Qw (Qw ?_)))); clear hK K; refine Qx (fun K hK => ?_); refine Qq rfl rfl rfl ?_; refine Qc rfl rfl (by with_reducible first | exact sTks.und | exact sWrs.und | exact sIks.und | exact sAdrs.und) (List.length_map ..) rfl ?_; refine Qq rfl rfl rfl ?_; refine Qj (hK _ _ (Qz (Q7 ?_))); clear hK K)
  generalize hout : ls false rs0 ids = out
  refine Xy (α := Nat × Rs × KnM) (fun q => q.1 ≤ ids.length ∧ knOk l q.2.2 ∧ ls (decide (0 < q.1)) q.2.1 (ids.drop q.1) = out)
    (fun q => [(0, .ct (rssC l)), (4, .ct (boolC an)), (6, .own 0), (7, .own 1), (11, .own 2), (16, .ct (iksC ids)), (17, .ct (intC ids.length)), (18, .ct (intC q.1))])
    (fun q => [(8, .mpx v (knM q.2.2)), (2, .box 35 (rsCs q.2.1)), (1, .box 37 (wrCs w)), (0, .box 94 [.fr (mapT (owM om)), .ex v])])
    (fun q => ids.length - q.1) (0, rs0, al) ⟨Nat.zero_le _, hal, hout⟩ (Entails.front 8 _ rfl <| by exact QX rfl ⟨rfl, rfl, rfl, rfl, rfl, rfl, rfl, rfl, trivial⟩) ?_
  clear hout hal
  intro ⟨j, last, m⟩ ⟨hj, hm, hout⟩
  try dsimp only at hj hm hout ⊢
  (refine Qw (Qx fun K hK => ?_); refine Qk ilss rfl rfl rfl rfl ?_; refine Qj (hK _ _ (Qz (Qw ?_))); clear hK K)
  refine Q2 rfl (fun h => ?_) (fun h => ?_)
  rotate_left
  · rw [List.drop_of_length_le (by omega), hend] at hout
    (refine Xq (Qz (Qw (Qx fun K hK => ?_))); refine Qy rfl rfl rfl ?_; refine Qj (hK _ _ (Qz (Q0 ?_))); clear hK K)
    refine Zk [2, 1, 0] m [_] rfl (Qu rfl QQ) (by rw [← hout]; rfl) rfl (fun _ => rfl) hm
  have e2 : (j : Int).toNat = j := Int.toNat_natCast j
  rw [dropA (z := ik0) (by omega), hstep] at hout
  (refine Q1 (Qz (Qw (Q7 (Qw (Qx fun K hK => ?_))))); refine Qq rfl rfl rfl ?_)
  refine Qo rfl rfl rfl (by with_reducible exact sIks) (by omega) (iks_at (by omega) (by omega)) rfl ?_
  rw [e2]
  generalize ids.getD j ik0 = id at hout
  refine XU (n := 3) rfl rfl rfl (by with_reducible exact lID) rfl rfl ?_
  refine Qh 3 rfl rfl (by with_reducible exact zvID) rfl rfl rfl ?_
  (refine Qy rfl rfl rfl ?_)
  refine Qa 3 rfl rfl rfl rfl rfl (by with_reducible exact szID) rfl rfl ?_
  (refine Qj (hK _ _ (Qz (Qw ?_))); clear hK K; refine Qx (fun K hK => ?_); refine Qq rfl rfl rfl ?_)
  refine Q4 (n := 3) rfl rfl rfl rfl rfl (by with_reducible exact lID) rfl ?_
  refine QK goFind (hF id) rfl rfl rfl rfl ?_
  generalize fd id = q at hout ⊢
  obtain ⟨r, ff⟩ := q
  dsimp only at hout ⊢
  (refine Qq rfl rfl rfl ?_; refine Qf rfl rfl rfl rfl ?_; refine Qf rfl rfl rfl rfl ?_)
  refine Qh 4 rfl rfl (by with_reducible exact zvRes) rfl rfl rfl ?_
  refine Qa 17 rfl rfl rfl rfl rfl (by with_reducible exact Yz) rfl rfl ?_
  (refine Qy rfl rfl rfl ?_; refine Qj (hK _ _ (Qz (Qw (Qw ?_)))); clear hK K)
  clear hF hstep hend
  cases ff with
  | false =>
    refine St.drawQ (by with_reducible exact mixed) [11] (.p 0 (.p 1 (.p 2 (.p 3 (.p 5 (.f 4 (.p 6 (.p 7 (.p 8 (.f 9 (.f 10 (.a 11 (.f 12 (.m 13 (.p 14 (.p 15 (.p 16 (.p 17 (.p 18 (.p 19 (.f 20 (.f 21 (.m 22 (.p 23 (.p 24 (.p 25 .done))) .non))))))))) .non)) (.m 12 (.a 11 (.m 13 (.p 14 (.p 15 (.p 16 (.p 17 (.p 18 (.p 19 (.f 20 (.f 21 (.m 22 (.p 23 (.p 24 (.p 25 .done))) .non))))))))) .non) .non) .non))))))))))))) (by kernel_rfl) (fun K hK => ?_)
    refine Qp ?_
    refine Qq rfl rfl rfl ?_
    refine Qj ?_
    refine Qp ?_
    refine Qm rfl rfl rfl ?_
    refine Qj ?_
    refine Qp ?_
    refine Qq rfl rfl rfl ?_
    refine Qj ?_
    refine Qp ?_
    refine Qv rfl rfl rfl ?_
    refine Qj ?_
    refine Qp ?_
    refine Qv rfl rfl rfl ?_
    refine Qj ?_
    refine XV ?_
    refine Qv rfl rfl rfl ?_
    refine Qj ?_
    refine Qp ?_
    refine Qv rfl rfl rfl ?_
    refine Qj ?_
    refine Qp ?_
    refine QZ rfl rfl rfl rfl ?_
    refine Qj ?_
    refine Qp ?_
    refine Qq rfl rfl rfl ?_
    refine Qj ?_
    refine XV ?_
    refine Qv rfl rfl rfl ?_
    refine Qj ?_
    refine XV ?_
    refine Qv rfl rfl rfl ?_
    refine Qj ?_
    refine XZ ?_ ?_
    · skip
      refine Qv rfl rfl rfl ?_
      refine Qj ?_
      refine XV ?_
      refine Qv rfl rfl rfl ?_
      refine Qj ?_
      refine XK ?_ Qg
      refine Qv rfl rfl rfl ?_
      refine Qj ?_
      refine Qp ?_
      refine Qv rfl rfl rfl ?_
      refine Qj ?_
      refine Qp ?_
      refine QZ rfl rfl rfl rfl ?_
      refine Qj ?_
      refine Qp ?_
      refine Qq rfl rfl rfl ?_
      refine Qj ?_
      refine Qp ?_
      refine Qv rfl rfl rfl ?_
      refine Qj ?_
      refine Qp ?_
      refine Qv rfl rfl rfl ?_
      refine Qj ?_
      refine Qp ?_
      refine Qv rfl rfl rfl ?_
      refine Qj ?_
      refine XV ?_
      refine Qv rfl rfl rfl ?_
      refine Qj ?_
      refine XV ?_
      refine Qv rfl rfl rfl ?_
      refine Qj ?_
      refine XK ?_ Qg
      refine Qv rfl rfl rfl ?_
      refine Qj ?_
      refine Qp ?_
      refine Qv rfl rfl rfl ?_
      refine Qj ?_
      refine Qp ?_
      refine Qv rfl rfl rfl ?_
      refine Qj ?_
      refine Qp ?_
      refine QZ rfl rfl rfl rfl ?_
      refine Qj ?_
      refine Xk (hK _ _ ?_)
      rw [if_pos (.inl rfl)] at hout
      (refine Qz (Qn rfl (Qw (Qx fun K hK => ?_))); refine Qy rfl rfl rfl ?_; refine Qj (hK _ _ (Qz (Q0 (QJ (Q3 (QJ (QJ (Q3 (QJ ?_))))))))); clear hK K)
      refine Zk [4, 3, 2, 1, 0] m [_] rfl (Qu rfl QQ) (by rw [hout]; rfl) rfl (fun _ => rfl) hm
    refine XK ?_ Qg
    refine Qv rfl rfl rfl ?_
    refine Qj ?_
    refine XZ ?_ Qg
    refine Qv rfl rfl rfl ?_
    refine Qj ?_
    refine XK ?_ Qg
    refine Qv rfl rfl rfl ?_
    refine Qj ?_
    refine Qp ?_
    refine Qv rfl rfl rfl ?_
    refine Qj ?_
    refine Qp ?_
    refine QZ rfl rfl rfl rfl ?_
    refine Qj ?_
    refine Qp ?_
    refine Qq rfl rfl rfl ?_
    refine Qj ?_
    refine Qp ?_
    refine Qv rfl rfl rfl ?_
    refine Qj ?_
    refine Qp ?_
    refine Qv rfl rfl rfl ?_
    refine Qj ?_
    refine Qp ?_
    refine Qv rfl rfl rfl ?_
    refine Qj ?_
    refine XV ?_
    refine Qv rfl rfl rfl ?_
    refine Qj ?_
    refine XV ?_
    refine Qv rfl rfl rfl ?_
    refine Qj ?_
    refine XK ?_ Qg
    refine Qv rfl rfl rfl ?_
    refine Qj ?_
    refine Qp ?_
    refine Qv rfl rfl rfl ?_
    refine Qj ?_
    refine Qp ?_
    refine Qv rfl rfl rfl ?_
    refine Qj ?_
    refine Qp ?_
    refine QZ rfl rfl rfl rfl ?_
    refine Qj ?_
    refine Xk (hK _ _ ?_)
    rw [if_pos (.inl rfl)] at hout
    (refine Qz (Qn rfl (Qw (Qx fun K hK => ?_))); refine Qy rfl rfl rfl ?_; refine Qj (hK _ _ (Qz (Q0 (QJ (Q3 (QJ (QJ (Q3 (QJ ?_))))))))); clear hK K)
    refine Zk [4, 3, 2, 1, 0] m [_] rfl (Qu rfl QQ) (by rw [hout]; rfl) rfl (fun _ => rfl) hm
  | true =>
    refine St.drawQ (by with_reducible exact mixed) [11] (.p 0 (.p 1 (.p 2 (.p 3 (.p 5 (.f 4 (.p 6 (.p 7 (.p 8 (.f 9 (.f 10 (.a 11 (.f 12 (.m 13 (.p 14 (.p 15 (.p 16 (.p 17 (.p 18 (.p 19 (.f 20 (.f 21 (.m 22 (.p 23 (.p 24 (.p 25 .done))) .non))))))))) .non)) (.m 12 (.a 11 (.m 13 (.p 14 (.p 15 (.p 16 (.p 17 (.p 18 (.p 19 (.f 20 (.f 21 (.m 22 (.p 23 (.p 24 (.p 25 .done))) .non))))))))) .non) .non) .non))))))))))))) (by kernel_rfl) (fun K hK => ?_)
    refine Qp ?_
    refine Qq rfl rfl rfl ?_
    refine Qj ?_
    refine Qp ?_
    refine Qm rfl rfl rfl ?_
    refine Qj ?_
    refine Qp ?_
    refine Qq rfl rfl rfl ?_
    refine Qj ?_
    refine Qp ?_
    refine QV rfl rfl rfl (by with_reducible exact fS8) rfl ?_
    refine Qj ?_
    refine Qp ?_
    refine Qq rfl rfl rfl ?_
    refine Qj ?_
    refine XV ?_
    refine QY rfl rfl rfl rfl rfl (by with_reducible exact Q8) rfl ?_
    refine Qj ?_
    refine Qp ?_
    refine Ops.bne rfl rfl rfl Tryz.underlying4 rfl ?_
    refine Qj ?_
    refine Qp ?_
    refine QW rfl rfl rfl rfl ?_
    refine Qj ?_
    refine Qp ?_
    refine Qq rfl rfl rfl ?_
    refine Qj ?_
    refine XV ?_
    refine X5 37 rfl (fun g37 => ?_) (fun g37 => ?_)
    · skip
      refine Qv rfl rfl rfl ?_
      refine Qj ?_
      refine XV ?_
      refine Qv rfl rfl rfl ?_
      refine Qj ?_
      refine XZ ?_ ?_
      · skip
        refine Qv rfl rfl rfl ?_
        refine Qj ?_
        refine XV ?_
        refine Qv rfl rfl rfl ?_
        refine Qj ?_
        refine XK ?_ Qg
        refine Qv rfl rfl rfl ?_
        refine Qj ?_
        refine Qp ?_
        refine Qv rfl rfl rfl ?_
        refine Qj ?_
        refine Qp ?_
        refine QZ rfl rfl rfl rfl ?_
        refine Qj ?_
        refine Qp ?_
        refine Qq rfl rfl rfl ?_
        refine Qj ?_
        refine Qp ?_
        refine Qv rfl rfl rfl ?_
        refine Qj ?_
        refine Qp ?_
        refine Qv rfl rfl rfl ?_
        refine Qj ?_
        refine Qp ?_
        refine Qv rfl rfl rfl ?_
        refine Qj ?_
        refine XV ?_
        refine Qv rfl rfl rfl ?_
        refine Qj ?_
        refine XV ?_
        refine Qv rfl rfl rfl ?_
        refine Qj ?_
        refine XK ?_ Qg
        refine Qv rfl rfl rfl ?_
        refine Qj ?_
        refine Qp ?_
        refine Qv rfl rfl rfl ?_
        refine Qj ?_
        refine Qp ?_
        refine Qv rfl rfl rfl ?_
        refine Qj ?_
        refine Qp ?_
        refine QZ rfl rfl rfl rfl ?_
        refine Qj ?_
        refine Xk (hK _ _ ?_)
        rw [if_pos (.inr (.inl (by simpa using g37)))] at hout
        (refine Qz (Qn rfl (Qw (Qx fun K hK => ?_))); refine Qy rfl rfl rfl ?_; refine Qj (hK _ _ (Qz (Q0 (QJ (Q3 (QJ (QJ (Q3 (QJ ?_))))))))); clear hK K)
        refine Zk [4, 3, 2, 1, 0] m [_] rfl (Qu rfl QQ) (by rw [hout]; rfl) rfl (fun _ => rfl) hm
      refine XK ?_ Qg
      refine Qv rfl rfl rfl ?_
      refine Qj ?_
      refine XZ ?_ Qg
      refine Qv rfl rfl rfl ?_
      refine Qj ?_
      refine XK ?_ Qg
      refine Qv rfl rfl rfl ?_
      refine Qj ?_
      refine Qp ?_
      refine Qv rfl rfl rfl ?_
      refine Qj ?_
      refine Qp ?_
      refine QZ rfl rfl rfl rfl ?_
      refine Qj ?_
      refine Qp ?_
      refine Qq rfl rfl rfl ?_
      refine Qj ?_
      refine Qp ?_
      refine Qv rfl rfl rfl ?_
      refine Qj ?_
      refine Qp ?_
      refine Qv rfl rfl rfl ?_
      refine Qj ?_
      refine Qp ?_
      refine Qv rfl rfl rfl ?_
      refine Qj ?_
      refine XV ?_
      refine Qv rfl rfl rfl ?_
      refine Qj ?_
      refine XV ?_
      refine Qv rfl rfl rfl ?_
      refine Qj ?_
      refine XK ?_ Qg
      refine Qv rfl rfl rfl ?_
      refine Qj ?_
      refine Qp ?_
      refine Qv rfl rfl rfl ?_
      refine Qj ?_
      refine Qp ?_
      refine Qv rfl rfl rfl ?_
      refine Qj ?_
      refine Qp ?_
      refine QZ rfl rfl rfl rfl ?_
      refine Qj ?_
      refine Xk (hK _ _ ?_)
      rw [if_pos (.inr (.inl (by simpa using g37)))] at hout
      (refine Qz (Qn rfl (Qw (Qx fun K hK => ?_))); refine Qy rfl rfl rfl ?_; refine Qj (hK _ _ (Qz (Q0 (QJ (Q3 (QJ (QJ (Q3 (QJ ?_))))))))); clear hK K)
      refine Zk [4, 3, 2, 1, 0] m [_] rfl (Qu rfl QQ) (by rw [hout]; rfl) rfl (fun _ => rfl) hm
    · skip
      refine Q4 (n := 2) rfl rfl rfl rfl rfl (by with_reducible exact Zo) rfl ?_
      refine Qj ?_
      refine XV ?_
      refine Q4 (n := 17) rfl rfl rfl rfl rfl (by with_reducible exact lRes) rfl ?_
      refine Qj ?_
      refine XZ ?_ ?_
      · skip
        refine Ops.call1 (As := [travC om v, rsC r]) 8 goway (hW r m hm) rfl rfl rfl hbor rfl (fun p hp => absurd hp (by simp)) (fun q j hq => by rcases hq with hq | ⟨_, hq⟩ <;> cases hq) (fun m' hm' => ?_)
        refine Qj ?_
        refine XV ?_
        refine Q4 (n := 2) rfl rfl rfl rfl rfl (by with_reducible exact ZK) rfl ?_
        refine Qj ?_
        refine XK ?_ Qg
        refine QK goContains_wr (Contains_wr (wy r) w (by have := hwl r; omega)) rfl rfl rfl rfl ?_
        refine Qj ?_
        refine Qp ?_
        refine Qm rfl rfl rfl ?_
        refine Qj ?_
        refine Qp ?_
        refine QW rfl rfl rfl rfl ?_
        refine Qj ?_
        refine Qp ?_
        refine Qq rfl rfl rfl ?_
        refine Qj ?_
        refine Qp ?_
        refine X5 45 rfl (fun g45 => ?_) (fun g45 => ?_)
        · skip
          refine Qv rfl rfl rfl ?_
          refine Qj ?_
          refine Qp ?_
          refine Qv rfl rfl rfl ?_
          refine Qj ?_
          refine Qp ?_
          refine Qv rfl rfl rfl ?_
          refine Qj ?_
          refine XV ?_
          refine Qv rfl rfl rfl ?_
          refine Qj ?_
          refine XV ?_
          refine Qv rfl rfl rfl ?_
          refine Qj ?_
          refine XK ?_ Qg
          refine Qv rfl rfl rfl ?_
          refine Qj ?_
          refine Qp ?_
          refine Qv rfl rfl rfl ?_
          refine Qj ?_
          refine Qp ?_
          refine Qv rfl rfl rfl ?_
          refine Qj ?_
          refine Qp ?_
          refine QZ rfl rfl rfl rfl ?_
          refine Qj ?_
          refine Xk (hK _ _ ?_)
          rw [if_pos (.inr (.inr (.inl (by simpa using g45))))] at hout
          (refine Qz (Qn rfl (Qw (Qx fun K hK => ?_))); refine Qy rfl rfl rfl ?_; refine Qj (hK _ _ (Qz (Q0 (QJ (Q3 (QJ (QJ (Q3 (QJ ?_))))))))); clear hK K)
          refine Zk [4, 3, 2, 1, 0] m' [_] rfl (Qu rfl QQ) (by rw [hout]; rfl) rfl (fun _ => rfl) hm'
        · skip
          refine Qq rfl rfl rfl ?_
          refine Qj ?_
          refine Qp ?_
          refine Qk igtr rfl rfl rfl rfl ?_
          refine Qj ?_
          refine Qp ?_
          refine Qq rfl rfl rfl ?_
          refine Qj ?_
          refine XV ?_
          refine Q6 48 rfl (fun g48 => ?_) (fun g48 => ?_)
          · skip
            refine Q4 (n := 17) rfl rfl rfl rfl rfl (by with_reducible exact lRes) rfl ?_
            refine Qj ?_
            refine XV ?_
            refine Q4 (n := 17) rfl rfl rfl rfl rfl (by with_reducible exact lRes) rfl ?_
            refine Qj ?_
            refine XK ?_ Qg
            refine QK goCmpR (cmpR_ok last r) rfl rfl rfl rfl ?_
            refine Qj ?_
            refine Qp ?_
            refine Qk igeq rfl rfl rfl rfl ?_
            refine Qj ?_
            refine Qp ?_
            refine QZ rfl rfl rfl rfl ?_
            refine Qj ?_
            refine Qp ?_
            refine QW rfl rfl rfl rfl ?_
            refine Qj ?_
            refine Xk (hK _ _ ?_)
            (refine Qz ?_)
            refine Q2 rfl (fun g9 => ?_) (fun g9 => ?_)
            · rw [if_pos (.inr (.inr (.inr ⟨by simpa using g48, g9⟩)))] at hout
              (refine Qw (Qx fun K hK => ?_); refine Qy rfl rfl rfl ?_; refine Qj (hK _ _ (Qz (Q0 (QJ (Q3 (QJ (QJ (Q3 (QJ ?_))))))))); clear hK K)
              refine Zk [4, 3, 2, 1, 0] m' [_] rfl (Qu rfl QQ) (by rw [hout]; rfl) rfl (fun _ => rfl) hm'
            · rw [if_neg (fun h => h.elim (fun h => by cases h) (fun h => h.elim (fun h => h (by simpa using g37)) (fun h => h.elim (fun h => h (by simpa using g45)) (fun h => g9 h.2))))] at hout
              (refine Q1 (Qz (Qx fun K hK => ?_)); refine Q4 (n := 17) rfl rfl rfl rfl rfl (by with_reducible exact lRes) rfl ?_; refine Qa 17 rfl rfl rfl rfl rfl (by with_reducible exact Yz) rfl rfl ?_; refine Qj (hK _ _ (Qz ?_)); clear hK K; refine Qx (fun K hK => ?_); refine Qk (iadd (by omega) (by omega)) rfl rfl rfl rfl ?_; refine Qq rfl rfl rfl ?_; refine Qj (hK _ _ (Q5 ?_)); clear hK K)
              refine Qr 4 ?_
              refine Qr 3 ?_
              refine Q9 (j + 1, r, m') (by dsimp only; omega) ⟨by dsimp only; omega, hm', hout⟩ (by exact QX rfl ⟨rfl, rfl, rfl, rfl, rfl, rfl, rfl, by simp only [Int.natCast_add]; rfl, trivial⟩)
          · skip
            refine Qv rfl rfl rfl ?_
            refine Qj ?_
            refine XV ?_
            refine Qv rfl rfl rfl ?_
            refine Qj ?_
            refine XK ?_ Qg
            refine Qv rfl rfl rfl ?_
            refine Qj ?_
            refine Qp ?_
            refine Qv rfl rfl rfl ?_
            refine Qj ?_
            refine Qp ?_
            refine QW rfl rfl rfl rfl ?_
            refine Qj ?_
            refine Qp ?_
            refine QW rfl rfl rfl rfl ?_
            refine Qj ?_
            refine Xk (hK _ _ ?_)
            rw [if_neg (fun h => h.elim (fun h => by cases h) (fun h => h.elim (fun h => h (by simpa using g37)) (fun h => h.elim (fun h => h (by simpa using g45)) (fun h => g48 (by have := h.1; simpa using this)))))] at hout
            (refine Qz (Xv rfl (Q1 (Qz (Qx fun K hK => ?_)))); refine Q4 (n := 17) rfl rfl rfl rfl rfl (by with_reducible exact lRes) rfl ?_; refine Qa 17 rfl rfl rfl rfl rfl (by with_reducible exact Yz) rfl rfl ?_; refine Qj (hK _ _ (Qz ?_)); clear hK K; refine Qx (fun K hK => ?_); refine Qk (iadd (by omega) (by omega)) rfl rfl rfl rfl ?_; refine Qq rfl rfl rfl ?_; refine Qj (hK _ _ (Q5 ?_)); clear hK K)
            refine Qr 4 ?_
            refine Qr 3 ?_
            refine Q9 (j + 1, r, m') (by dsimp only; omega) ⟨by dsimp only; omega, hm', hout⟩ (by exact QX rfl ⟨rfl, rfl, rfl, rfl, rfl, rfl, rfl, by simp only [Int.natCast_add]; rfl, trivial⟩)
      refine XK ?_ Qg
      refine Q4 (n := 2) rfl rfl rfl rfl rfl (by with_reducible exact ZK) rfl ?_
      refine Qj ?_
      refine XZ ?_ Qg
      refine Ops.call1 (As := [travC om v, rsC r]) 8 goway (hW r m hm) rfl rfl rfl hbor rfl (fun p hp => absurd hp (by simp)) (fun q j hq => by rcases hq with hq | ⟨_, hq⟩ <;> cases hq) (fun m' hm' => ?_)
      refine Qj ?_
      refine XK ?_ Qg
      refine QK goContains_wr (Contains_wr (wy r) w (by have := hwl r; omega)) rfl rfl rfl rfl ?_
      refine Qj ?_
      refine Qp ?_
      refine Qm rfl rfl rfl ?_
      refine Qj ?_
      refine Qp ?_
      refine QW rfl rfl rfl rfl ?_
      refine Qj ?_
      refine Qp ?_
      refine Qq rfl rfl rfl ?_
      refine Qj ?_
      refine Qp ?_
      refine X5 45 rfl (fun g45 => ?_) (fun g45 => ?_)
      · skip
        refine Qv rfl rfl rfl ?_
        refine Qj ?_
        refine Qp ?_
        refine Qv rfl rfl rfl ?_
        refine Qj ?_
        refine Qp ?_
        refine Qv rfl rfl rfl ?_
        refine Qj ?_
        refine XV ?_
        refine Qv rfl rfl rfl ?_
        refine Qj ?_
        refine XV ?_
        refine Qv rfl rfl rfl ?_
        refine Qj ?_
        refine XK ?_ Qg
        refine Qv rfl rfl rfl ?_
        refine Qj ?_
        refine Qp ?_
        refine Qv rfl rfl rfl ?_
        refine Qj ?_
        refine Qp ?_
        refine Qv rfl rfl rfl ?_
        refine Qj ?_
        refine Qp ?_
        refine QZ rfl rfl rfl rfl ?_
        refine Qj ?_
        refine Xk (hK _ _ ?_)
        rw [if_pos (.inr (.inr (.inl (by simpa using g45))))] at hout
        (refine Qz (Qn rfl (Qw (Qx fun K hK => ?_))); refine Qy rfl rfl rfl ?_; refine Qj (hK _ _ (Qz (Q0 (QJ (Q3 (QJ (QJ (Q3 (QJ ?_))))))))); clear hK K)
        refine Zk [4, 3, 2, 1, 0] m' [_] rfl (Qu rfl QQ) (by rw [hout]; rfl) rfl (fun _ => rfl) hm'
      · skip
        refine Qq rfl rfl rfl ?_
        refine Qj ?_
        refine Qp ?_
        refine Qk igtr rfl rfl rfl rfl ?_
        refine Qj ?_
        refine Qp ?_
        refine Qq rfl rfl rfl ?_
        refine Qj ?_
        refine XV ?_
        refine Q6 48 rfl (fun g48 => ?_) (fun g48 => ?_)
        · skip
          refine Q4 (n := 17) rfl rfl rfl rfl rfl (by with_reducible exact lRes) rfl ?_
          refine Qj ?_
          refine XV ?_
          refine Q4 (n := 17) rfl rfl rfl rfl rfl (by with_reducible exact lRes) rfl ?_
          refine Qj ?_
          refine XK ?_ Qg
          refine QK goCmpR (cmpR_ok last r) rfl rfl rfl rfl ?_
          refine Qj ?_
          refine Qp ?_
          refine Qk igeq rfl rfl rfl rfl ?_
          refine Qj ?_
          refine Qp ?_
          refine QZ rfl rfl rfl rfl ?_
          refine Qj ?_
          refine Qp ?_
          refine QW rfl rfl rfl rfl ?_
          refine Qj ?_
          refine Xk (hK _ _ ?_)
          (refine Qz ?_)
          refine Q2 rfl (fun g9 => ?_) (fun g9 => ?_)
          · rw [if_pos (.inr (.inr (.inr ⟨by simpa using g48, g9⟩)))] at hout
            (refine Qw (Qx fun K hK => ?_); refine Qy rfl rfl rfl ?_; refine Qj (hK _ _ (Qz (Q0 (QJ (Q3 (QJ (QJ (Q3 (QJ ?_))))))))); clear hK K)
            refine Zk [4, 3, 2, 1, 0] m' [_] rfl (Qu rfl QQ) (by rw [hout]; rfl) rfl (fun _ => rfl) hm'
          · rw [if_neg (fun h => h.elim (fun h => by cases h) (fun h => h.elim (fun h => h (by simpa using g37)) (fun h => h.elim (fun h => h (by simpa using g45)) (fun h => g9 h.2))))] at hout
            (refine Q1 (Qz (Qx fun K hK => ?_)); refine Q4 (n := 17) rfl rfl rfl rfl rfl (by with_reducible exact lRes) rfl ?_; refine Qa 17 rfl rfl rfl rfl rfl (by with_reducible exact Yz) rfl rfl ?_; refine Qj (hK _ _ (Qz ?_)); clear hK K; refine Qx (fun K hK => ?_); refine Qk (iadd (by omega) (by omega)) rfl rfl rfl rfl ?_; refine Qq rfl rfl rfl ?_; refine Qj (hK _ _ (Q5 ?_)); clear hK K)
            refine Qr 4 ?_
            refine Qr 3 ?_
            refine Q9 (j + 1, r, m') (by dsimp only; omega) ⟨by dsimp only; omega, hm', hout⟩ (by exact QX rfl ⟨rfl, rfl, rfl, rfl, rfl, rfl, rfl, by simp only [Int.natCast_add]; rfl, trivial⟩)
        · skip
          refine Qv rfl rfl rfl ?_
          refine Qj ?_
          refine XV ?_
          refine Qv rfl rfl rfl ?_
          refine Qj ?_
          refine XK ?_ Qg
          refine Qv rfl rfl rfl ?_
          refine Qj ?_
          refine Qp ?_
          refine Qv rfl rfl rfl ?_
          refine Qj ?_
          refine Qp ?_
          refine QW rfl rfl rfl rfl ?_
          refine Qj ?_
          refine Qp ?_
          refine QW rfl rfl rfl rfl ?_
          refine Qj ?_
          refine Xk (hK _ _ ?_)
          rw [if_neg (fun h => h.elim (fun h => by cases h) (fun h => h.elim (fun h => h (by simpa using g37)) (fun h => h.elim (fun h => h (by simpa using g45)) (fun h => g48 (by have := h.1; simpa using this)))))] at hout
          (refine Qz (Xv rfl (Q1 (Qz (Qx fun K hK => ?_)))); refine Q4 (n := 17) rfl rfl rfl rfl rfl (by with_reducible exact lRes) rfl ?_; refine Qa 17 rfl rfl rfl rfl rfl (by with_reducible exact Yz) rfl rfl ?_; refine Qj (hK _ _ (Qz ?_)); clear hK K; refine Qx (fun K hK => ?_); refine Qk (iadd (by omega) (by omega)) rfl rfl rfl rfl ?_; refine Qq rfl rfl rfl ?_; refine Qj (hK _ _ (Q5 ?_)); clear hK K)
          refine Qr 4 ?_
          refine Qr 3 ?_
          refine Q9 (j + 1, r, m') (by dsimp only; omega) ⟨by dsimp only; omega, hm', hout⟩ (by exact QX rfl ⟨rfl, rfl, rfl, rfl, rfl, rfl, rfl, by simp only [Int.natCast_add]; rfl, trivial⟩)
def hoF (l : List Rs) (n : Int) (c : Cn) (s t : List Ik) : Bool :=
  if n < 0 ∨ 1048576 < n then false else if ¬ chkF l = 0 then false
  else lsG l c.wr true false rs0 s && (lsG l c.wr false false rs0 t && (decide ((t.length : Int) ≤ c.hi) && (decide (c.se = s.length + t.length) && decide (c.lo ≤ max 0 (t.length - n)))))
theorem goHolds : InGo Tryz.prog 31 := InGo.of Tryz.func31 rfl (by decide)
set_option maxHeartbeats 16000000 in
theorem Holds_ok (l : List Rs) (hl : l.length ≤ 10000) (n : Int) (c : Cn) (s t : List Ik) (hs : s.length ≤ 4000000000) (ht : t.length ≤ 4000000000) : Ok Tryz.prog 31 [rssC l, intC n, cnC c, iksC s, iksC t] (boolC (hoF l n c s t)) := by
  have hC := check_ok l hl
  have hT := Travel_ok l hl
  have hL := fun v (hv : v.oneCell' = true) ids an (hids : ids.length ≤ 4000000000) al hal => listed_ok l hl v hv c.wr ids (by omega) an al hal
  have e : hoF l n c s t = if n < 0 ∨ 1048576 < n then false else if ¬ chkF l = 0 then false
    else lsG l c.wr true false rs0 s && (lsG l c.wr false false rs0 t && (decide ((t.length : Int) ≤ c.hi) && (decide (c.se = s.length + t.length) && decide (c.lo ≤ max 0 (t.length - n))))) := rfl
  generalize chkF l = k at hC e
  generalize hoF l n c s t = out at e ⊢
  have hL1 := fun v hv al hal => hL v hv s true hs al hal
  have hL2 := fun v hv al hal => hL v hv t false ht al hal
  clear hL
  generalize lsG l c.wr true false rs0 s = b1 at hL1 e
  generalize lsG l c.wr false false rs0 t = b2 at hL2 e
  generalize owF l = om at hT hL1 hL2
  refine Ok.enter Tryz.func31 rfl _ Tryz.ntmps31 rfl ?_
  intro S w0
  refine Qw ?_
  refine Qx (fun K hK => ?_)
  refine Xu 0 rfl rfl rfl rfl rfl rfl rfl ?_
  (refine Qy rfl rfl rfl ?_; refine Qj (hK _ _ (Qz (Qw (Qw ?_)))); clear hK K; refine Qx (fun K hK => ?_); refine Qq rfl rfl rfl ?_; refine Qk ilss rfl rfl rfl rfl ?_; refine Qq rfl rfl rfl ?_)
  refine Q6 14 rfl (fun h1 => ?_) (fun h1 => ?_)
  · rw [if_pos (.inl h1)] at e
    (refine Qv rfl rfl rfl ?_; refine Qv rfl rfl rfl ?_; refine QZ rfl rfl rfl rfl ?_; refine Qq rfl rfl rfl ?_; refine Qv rfl rfl rfl ?_; refine Qv rfl rfl rfl ?_; refine Qv rfl rfl rfl ?_; refine QZ rfl rfl rfl rfl ?_; refine Qj (hK _ _ (Qz (Qn rfl (Qw ?_)))); clear hK K; refine Qx (fun K hK => ?_); refine Qy rfl rfl rfl ?_; refine Qj (hK _ _ (Qz (Q0 (QJ ?_)))); clear hK K)
    refine QU [_] rfl (Qu rfl QQ) (by rw [e]; rfl) rfl
  (refine Qq rfl rfl rfl ?_; refine Qk igtr rfl rfl rfl rfl ?_; refine QW rfl rfl rfl rfl ?_; refine Qq rfl rfl rfl ?_)
  refine Q6 18 rfl (fun h2 => ?_) (fun h2 => ?_)
  · rw [if_pos (.inr h2)] at e
    (refine Qv rfl rfl rfl ?_; refine Qv rfl rfl rfl ?_; refine Qv rfl rfl rfl ?_; refine QZ rfl rfl rfl rfl ?_; refine Qj (hK _ _ (Qz (Qn rfl (Qw ?_)))); clear hK K; refine Qx (fun K hK => ?_); refine Qy rfl rfl rfl ?_; refine Qj (hK _ _ (Qz (Q0 (QJ ?_)))); clear hK K)
    refine QU [_] rfl (Qu rfl QQ) (by rw [e]; rfl) rfl
  rw [if_neg (fun h => h.elim h1 h2)] at e
  (refine Qq rfl rfl rfl ?_)
  refine QK gocheck hC rfl rfl rfl rfl ?_
  (refine Qk ineq rfl rfl rfl rfl ?_; refine QW rfl rfl rfl rfl ?_; refine Qj (hK _ _ (Qz ?_)); clear hK K)
  refine Q2 rfl (fun h3 => ?_) (fun h3 => ?_)
  · rw [if_pos h3] at e
    (refine Qw (Qx fun K hK => ?_); refine Qy rfl rfl rfl ?_; refine Qj (hK _ _ (Qz (Q0 (QJ ?_)))); clear hK K)
    refine QU [_] rfl (Qu rfl QQ) (by rw [e]; rfl) rfl
  rw [if_neg h3] at e
  (refine Q1 (Qz (Qw (Qx fun K hK => ?_))); refine Qq rfl rfl rfl ?_)
  refine Ops.callNew 8 gotravel hT rfl rfl rfl (fun _ h => h.elim) rfl rfl rfl (fun v hv => ?_)
  refine Qh 1 rfl rfl (by with_reducible exact zvTrav) rfl rfl rfl ?_
  refine Qa 2 rfl rfl rfl rfl (by show (true && (Value.oneCell' v && true)) = true; rw [hv]; rfl) (by with_reducible exact szTrav) rfl rfl ?_
  (refine Qj (hK _ _ (Qz (Qw ?_))); clear hK K; refine Qx (fun K hK => ?_); refine Qq rfl rfl rfl ?_; refine Q4 (n := 2) rfl rfl rfl rfl rfl (by with_reducible first | exact Zo | exact ZK | exact lCs) rfl ?_; refine QV rfl rfl rfl (by with_reducible first | exact fTk0 | exact fTk1 | exact fTk2 | exact fWr0 | exact fWr1 | exact X1 | exact X0 | exact Xi | exact fStm1 | exact fCn0 | exact fCn1 | exact fCn2 | exact fCn3 | exact fCs0 | exact fCs1) rfl ?_)
  refine Ops.ldNA (n := 2) rfl rfl rfl rfl (Nat.le_of_ble_eq_true rfl) (by with_reducible exact ZK) rfl ?_
  (refine Qq rfl rfl rfl ?_)
  refine Ops.call1 (As := [rssC l, travC om v, wrC c.wr, iksC s, boolC true]) 8 golisted (hL1 v hv [] (fun _ _ h => by cases h)) rfl rfl rfl (fun _ h => h.elim) rfl (fun p hp => absurd hp (by simp)) (fun q j hq => by rcases hq with hq | ⟨_, hq⟩ <;> cases hq) (fun m hm => ?_)
  (refine Qq rfl rfl rfl ?_)
  refine X5 31 rfl (fun g1 => ?_) (fun g1 => ?_)
  rotate_left
  · rw [g1, Bool.false_and] at e
    (refine Qv rfl rfl rfl ?_; refine Qv rfl rfl rfl ?_; refine Qv rfl rfl rfl ?_; refine Qv rfl rfl rfl ?_; refine Qv rfl rfl rfl ?_; refine Qv rfl rfl rfl ?_; refine QW rfl rfl rfl rfl ?_; refine Qq rfl rfl rfl ?_; refine Qv rfl rfl rfl ?_; refine Qv rfl rfl rfl ?_; refine Qv rfl rfl rfl ?_; refine Qv rfl rfl rfl ?_; refine Qv rfl rfl rfl ?_; refine QW rfl rfl rfl rfl ?_; refine Qq rfl rfl rfl ?_; refine Qv rfl rfl rfl ?_; refine Qv rfl rfl rfl ?_; refine Qv rfl rfl rfl ?_; refine Qv rfl rfl rfl ?_; refine Qv rfl rfl rfl ?_; refine Qv rfl rfl rfl ?_; refine Qv rfl rfl rfl ?_; refine Qv rfl rfl rfl ?_; refine QW rfl rfl rfl rfl ?_; refine Qq rfl rfl rfl ?_; refine Qv rfl rfl rfl ?_; refine Qv rfl rfl rfl ?_; refine Qv rfl rfl rfl ?_; refine Qv rfl rfl rfl ?_; refine Qv rfl rfl rfl ?_; refine Qv rfl rfl rfl ?_; refine Qv rfl rfl rfl ?_; refine Qv rfl rfl rfl ?_; refine QW rfl rfl rfl rfl ?_; refine Qy rfl rfl rfl ?_; refine Qj (hK _ _ (Qz (Q0 ?_))); clear hK K)
    refine QU [_] rfl (Qu rfl QQ) (by rw [e]; rfl) rfl
  rw [g1, Bool.true_and] at e
  (refine Qq rfl rfl rfl ?_; refine Q4 (n := 2) rfl rfl rfl rfl rfl (by with_reducible first | exact Zo | exact ZK | exact lCs) rfl ?_; refine QV rfl rfl rfl (by with_reducible first | exact fTk0 | exact fTk1 | exact fTk2 | exact fWr0 | exact fWr1 | exact X1 | exact X0 | exact Xi | exact fStm1 | exact fCn0 | exact fCn1 | exact fCn2 | exact fCn3 | exact fCs0 | exact fCs1) rfl ?_)
  refine Ops.ldNA (n := 2) rfl rfl rfl rfl (Nat.le_of_ble_eq_true rfl) (by with_reducible exact ZK) rfl ?_
  (refine Qq rfl rfl rfl ?_)
  refine Ops.call1 (As := [rssC l, travC om v, wrC c.wr, iksC t, boolC false]) 8 golisted (hL2 v hv m hm) rfl rfl rfl (fun _ h => h.elim) rfl (fun p hp => absurd hp (by simp)) (fun q j hq => by rcases hq with hq | ⟨_, hq⟩ <;> cases hq) (fun m' hm' => ?_)
  (refine QZ rfl rfl rfl rfl ?_; refine Qq rfl rfl rfl ?_)
  refine X5 39 rfl (fun g2 => ?_) (fun g2 => ?_)
  rotate_left
  · rw [g2, Bool.false_and] at e
    (refine Qv rfl rfl rfl ?_; refine Qv rfl rfl rfl ?_; refine Qv rfl rfl rfl ?_; refine Qv rfl rfl rfl ?_; refine Qv rfl rfl rfl ?_; refine QW rfl rfl rfl rfl ?_; refine Qq rfl rfl rfl ?_; refine Qv rfl rfl rfl ?_; refine Qv rfl rfl rfl ?_; refine Qv rfl rfl rfl ?_; refine Qv rfl rfl rfl ?_; refine Qv rfl rfl rfl ?_; refine Qv rfl rfl rfl ?_; refine Qv rfl rfl rfl ?_; refine Qv rfl rfl rfl ?_; refine QW rfl rfl rfl rfl ?_; refine Qq rfl rfl rfl ?_; refine Qv rfl rfl rfl ?_; refine Qv rfl rfl rfl ?_; refine Qv rfl rfl rfl ?_; refine Qv rfl rfl rfl ?_; refine Qv rfl rfl rfl ?_; refine Qv rfl rfl rfl ?_; refine Qv rfl rfl rfl ?_; refine Qv rfl rfl rfl ?_; refine QW rfl rfl rfl rfl ?_; refine Qy rfl rfl rfl ?_; refine Qj (hK _ _ (Qz (Q0 ?_))); clear hK K)
    refine QU [_] rfl (Qu rfl QQ) (by rw [e]; rfl) rfl
  rw [g2, Bool.true_and] at e
  (refine QV rfl rfl rfl (by with_reducible first | exact fTk0 | exact fTk1 | exact fTk2 | exact fWr0 | exact fWr1 | exact X1 | exact X0 | exact Xi | exact fStm1 | exact fCn0 | exact fCn1 | exact fCn2 | exact fCn3 | exact fCs0 | exact fCs1) rfl ?_; refine QY rfl rfl rfl rfl rfl (by with_reducible first | exact lInt | exact Qd | exact Q8 | exact lRess) rfl ?_; refine Qq rfl rfl rfl ?_; refine Qc rfl rfl (by with_reducible first | exact sTks.und | exact sWrs.und | exact sIks.und | exact sAdrs.und) (List.length_map ..) rfl ?_; refine Qk igeq rfl rfl rfl rfl ?_; refine QZ rfl rfl rfl rfl ?_; refine Qq rfl rfl rfl ?_)
  refine Q6 46 rfl (fun g3 => ?_) (fun g3 => ?_)
  rotate_left
  · rw [decide_eq_false g3, Bool.false_and] at e
    (refine Qv rfl rfl rfl ?_; refine Qv rfl rfl rfl ?_; refine Qv rfl rfl rfl ?_; refine Qv rfl rfl rfl ?_; refine Qv rfl rfl rfl ?_; refine Qv rfl rfl rfl ?_; refine Qv rfl rfl rfl ?_; refine Qv rfl rfl rfl ?_; refine QW rfl rfl rfl rfl ?_; refine Qq rfl rfl rfl ?_; refine Qv rfl rfl rfl ?_; refine Qv rfl rfl rfl ?_; refine Qv rfl rfl rfl ?_; refine Qv rfl rfl rfl ?_; refine Qv rfl rfl rfl ?_; refine Qv rfl rfl rfl ?_; refine Qv rfl rfl rfl ?_; refine Qv rfl rfl rfl ?_; refine QW rfl rfl rfl rfl ?_; refine Qy rfl rfl rfl ?_; refine Qj (hK _ _ (Qz (Q0 ?_))); clear hK K)
    refine QU [_] rfl (Qu rfl QQ) (by rw [e]; rfl) rfl
  rw [decide_eq_true g3, Bool.true_and] at e
  (refine QV rfl rfl rfl (by with_reducible first | exact fTk0 | exact fTk1 | exact fTk2 | exact fWr0 | exact fWr1 | exact X1 | exact X0 | exact Xi | exact fStm1 | exact fCn0 | exact fCn1 | exact fCn2 | exact fCn3 | exact fCs0 | exact fCs1) rfl ?_; refine QY rfl rfl rfl rfl rfl (by with_reducible first | exact lInt | exact Qd | exact Q8 | exact lRess) rfl ?_; refine Qq rfl rfl rfl ?_; refine Qc rfl rfl (by with_reducible first | exact sTks.und | exact sWrs.und | exact sIks.und | exact sAdrs.und) (List.length_map ..) rfl ?_; refine Qq rfl rfl rfl ?_; refine Qc rfl rfl (by with_reducible first | exact sTks.und | exact sWrs.und | exact sIks.und | exact sAdrs.und) (List.length_map ..) rfl ?_; refine Qk (iadd (by omega) (by omega)) rfl rfl rfl rfl ?_; refine Qk ieql rfl rfl rfl rfl ?_; refine QZ rfl rfl rfl rfl ?_; refine Qq rfl rfl rfl ?_)
  refine Q6 56 rfl (fun g4 => ?_) (fun g4 => ?_)
  rotate_left
  · rw [decide_eq_false g4, Bool.false_and] at e
    (refine Qv rfl rfl rfl ?_; refine Qv rfl rfl rfl ?_; refine Qv rfl rfl rfl ?_; refine Qv rfl rfl rfl ?_; refine Qv rfl rfl rfl ?_; refine Qv rfl rfl rfl ?_; refine Qv rfl rfl rfl ?_; refine Qv rfl rfl rfl ?_; refine QW rfl rfl rfl rfl ?_; refine Qy rfl rfl rfl ?_; refine Qj (hK _ _ (Qz (Q0 ?_))); clear hK K)
    refine QU [_] rfl (Qu rfl QQ) (by rw [e]; rfl) rfl
  rw [decide_eq_true g4, Bool.true_and] at e
  (refine QV rfl rfl rfl (by with_reducible first | exact fTk0 | exact fTk1 | exact fTk2 | exact fWr0 | exact fWr1 | exact X1 | exact X0 | exact Xi | exact fStm1 | exact fCn0 | exact fCn1 | exact fCn2 | exact fCn3 | exact fCs0 | exact fCs1) rfl ?_; refine QY rfl rfl rfl rfl rfl (by with_reducible first | exact lInt | exact Qd | exact Q8 | exact lRess) rfl ?_; refine Qq rfl rfl rfl ?_; refine Qc rfl rfl (by with_reducible first | exact sTks.und | exact sWrs.und | exact sIks.und | exact sAdrs.und) (List.length_map ..) rfl ?_; refine Qq rfl rfl rfl ?_; refine Qk (isub (by omega) (by omega)) rfl rfl rfl rfl ?_; refine Ops.max2 rfl rfl rfl rfl ?_; refine Qk ileq rfl rfl rfl rfl ?_; refine QZ rfl rfl rfl rfl ?_; refine Qy rfl rfl rfl ?_; refine Qj (hK _ _ (Qz (Q0 ?_))); clear hK K)
  refine QU [_] rfl (Qu rfl QQ) (by rw [e]; rfl) rfl
end Go.Proofs.YtlkdkbdgnjcopaaGreat
namespace Go.Proofs.YtlkdkbdgnjcopaaGreat
open Go.Own Go.Limbs
section
variable {l m : List Rs} (h : ∀ r, r ∈ l ↔ r ∈ m)
include h
theorem same_sd : sd cmpR (l.filter okR) = sd cmpR (m.filter okR) :=
  Up.ext ordR (Zh ordR _).1 (Zh ordR _).1 fun r => by
    rw [(Zh ordR _).2, (Zh ordR _).2, List.mem_filter, List.mem_filter, h r]
theorem same_way : wayF l = wayF m := by
  have e := same_sd h
  funext r
  have eo : ofF l (trOf r) = ofF m (trOf r) := by unfold ofF; rw [e]
  rw [wayF_eq, wayF_eq, eo]
theorem same_chk : chkF l = chkF m := by
  have e := same_sd h
  have ea : (l.any fun r => !okR r) = (m.any fun r => !okR r) := by
    rw [Bool.eq_iff_iff, List.any_eq_true, List.any_eq_true]
    exact ⟨fun ⟨r, hr, hk⟩ => ⟨r, (h r).1 hr, hk⟩, fun ⟨r, hr, hk⟩ => ⟨r, (h r).2 hr, hk⟩⟩
  have ec : consB l = consB m := by unfold consB; rw [e]
  unfold chkF
  rw [ea, e, ec]
theorem same_al (n : Int) : alO l n = alO m n := by
  unfold alO
  rw [same_chk h, same_way h, same_sd h]
end
theorem fn_stay {id : Ik} {r : Rs} : ∀ (l : List Rs), (∀ s ∈ l, okR s = true → idOf s = id → s = r) → l.foldl (fnS id) (r, true) = (r, true)
  | [], _ => rfl
  | x :: l, h => by
    have e : fnS id (r, true) x = (r, true) := by
      unfold fnS
      split
      · rename_i hc
        rw [h x (List.mem_cons_self ..) hc.2.2 hc.1]
      · rfl
    rw [List.foldl_cons, e]
    exact fn_stay l fun s hs => h s (List.mem_cons_of_mem _ hs)
theorem fn_find {id : Ik} {r b : Rs} (hid : idOf r = id) (hok : okR r = true) : ∀ (l : List Rs), r ∈ l → (∀ s ∈ l, okR s = true → idOf s = id → s = r) → l.foldl (fnS id) (b, false) = (r, true)
  | [], h, _ => by cases h
  | x :: l, h, hu => by
    rw [List.foldl_cons]
    by_cases hc : idOf x = id ∧ okR x = true
    · have hx := hu x (List.mem_cons_self ..) hc.2 hc.1
      have e : fnS id (b, false) x = (x, true) := if_pos ⟨hc.1, .inl rfl, hc.2⟩
      rw [e, hx]
      exact fn_stay l fun s hs => hu s (List.mem_cons_of_mem _ hs)
    · have e : fnS id (b, false) x = (b, false) := if_neg fun h => hc ⟨h.1, h.2.2⟩
      rw [e]
      refine fn_find hid hok l ?_ fun s hs => hu s (List.mem_cons_of_mem _ hs)
      rcases List.mem_cons.1 h with rfl | h
      · exact absurd ⟨hid, hok⟩ hc
      · exact h
theorem pair_or {α : Type} {R : α → α → Prop} : ∀ {l : List α}, l.Pairwise R → ∀ {a b : α}, a ∈ l → b ∈ l → a = b ∨ R a b ∨ R b a
  | [], _, _, _, h, _ => by cases h
  | x :: l, h, a, b, ha, hb => by
    obtain ⟨h1, h2⟩ := List.pairwise_cons.1 h
    rcases List.mem_cons.1 ha with ha | ha
    · rcases List.mem_cons.1 hb with hb | hb
      · exact .inl (ha.trans hb.symm)
      · exact .inr (.inl (ha ▸ h1 b hb))
    · rcases List.mem_cons.1 hb with hb | hb
      · exact .inr (.inr (hb ▸ h1 a ha))
      · exact pair_or h2 ha hb
theorem uniq {x : List Rs} (hu : x.Pairwise fun a b => ¬ (a.va = b.va ∧ a.nu = b.nu)) {a b : Rs} (ha : a ∈ x) (hb : b ∈ x) (h : idOf a = idOf b) : a = b := by
  unfold idOf at h
  injection h with h1 h2 h3
  rcases pair_or hu ha hb with h4 | h4 | h4
  · exact h4
  · exact absurd ⟨h1, h3⟩ h4
  · exact absurd ⟨h1.symm, h3.symm⟩ h4
theorem listed_true {l : List Rs} {w : Wr} {an : Bool} : ∀ (q : List Rs) (p : Bool) (last : Rs), Up cmpR q → (∀ r ∈ q, findF l (idOf r) = (r, true) ∧ r.an = an ∧ w ∈ wayF l r) → (p = true → ∀ r ∈ q, cmpR last r < 0) → lsG l w an p last (q.map idOf) = true
  | [], _, _, _, _, _ => rfl
  | r :: q, p, last, hup, hq, hl => by
    obtain ⟨h1, h2⟩ := List.pairwise_cons.1 hup
    obtain ⟨h3, h4, h5⟩ := hq r (List.mem_cons_self ..)
    rw [List.map_cons]
    unfold lsG
    rw [h3, if_neg]
    · exact listed_true q true r h2 (fun s hs => hq s (List.mem_cons_of_mem _ hs)) (fun _ => h1)
    · rintro (h | h | h | ⟨h, h6⟩)
      · cases h
      · exact h h4
      · exact h h5
      · have := hl h r (List.mem_cons_self ..)
        dsimp only at h6
        omega
theorem holds_true {x : List Rs} {n : Int} {c : Cn} (hc : chkF x = 0) (hn : 0 ≤ n ∧ n ≤ 1048576) (hu : x.Pairwise fun a b => ¬ (a.va = b.va ∧ a.nu = b.nu)) (h : CnOk x n c) :
    hoF x n c ((crsF x c.wr true).map idOf) ((crsF x c.wr false).map idOf) = true := by
  have hL : ∀ b, lsG x c.wr b false rs0 ((crsF x c.wr b).map idOf) = true := fun b => by
    refine listed_true _ _ _ (List.Pairwise.sublist List.filter_sublist (Zh ordR _).1) (fun r hr => ?_) (fun h => by cases h)
    obtain ⟨h1, h2⟩ := List.mem_filter.1 hr
    obtain ⟨h3, h4⟩ := List.mem_filter.1 (((Zh ordR _).2 r).1 h1)
    rw [Bool.and_eq_true] at h2
    exact ⟨fn_find rfl h4 x h3 fun s hs _ he => uniq hu hs h3 he, by simpa using h2.2, of_decide_eq_true h2.1⟩
  obtain ⟨l1, l2⟩ := h.len
  unfold hoF
  rw [if_neg (by omega), if_neg (fun h => h hc), hL true, hL false, List.length_map, List.length_map, decide_eq_true (show ((crsF x c.wr false).length : Int) ≤ c.hi by omega), decide_eq_true (show c.se = ((crsF x c.wr true).length : Int) + (crsF x c.wr false).length by omega), decide_eq_true (show c.lo ≤ max 0 (((crsF x c.wr false).length : Int) - n) by rw [h.lo]; omega)]
  rfl
attribute [local irreducible] Go.Own.Fin Ok OkB OkF OkL OkM OkN OkT Ops St
def cnI (c : Cn) : List Int := [(c.wr.1.val : Int), (c.wr.2.val : Int), c.se, c.lo, c.hi]
theorem cnI_inj (a b : Cn) (h : cnI a = cnI b) : a = b := by
  obtain ⟨⟨a1, a2⟩, a3, a4, a5⟩ := a
  obtain ⟨⟨b1, b2⟩, b3, b4, b5⟩ := b
  simp only [cnI, List.cons.injEq, and_true, Int.ofNat_inj, _root_.Fin.val_inj] at h
  obtain ⟨h1, h2, h3, h4, h5⟩ := h
  rw [h1, h2, h3, h4, h5]
theorem eqCn : EqF Tryz.prog 39 37 [.u32, .u32] [.i64, .i64, .i64] := ⟨by kernel_rfl, by kernel_rfl, by kernel_rfl, by kernel_rfl, by kernel_rfl, by kernel_rfl, by kernel_rfl, by kernel_rfl⟩
section
variable {X : Ctx} {L : AL} {B : BL} {ops : Array Oper} {K : Act → World → Prop} {r : Pl} {k : Kd}
  {x y z : Operand} {d : Nat} {t t2 t' : TypeId} {pos : String} {af : Array Edge} {g : Option (Nat × Bool)}
theorem neCn (p q : Cn) (hg : gd ops L g = some true) (hx : ev L x = some (.ct (.fr (aggT (cnCs p))))) (hy : ev L y = some (.ct (.fr (aggT (cnCs q))))) (hP : X.P = Tryz.prog) (hn : Nat.blt d X.n = true)
    (h : Ops X ops r ((d, .ct (boolC (decide (¬ p = q)))) :: L) B K) : Ops X ops (.cons ⟨some d, .binOp .neq 39 x y t2, t', pos, af, g⟩ k r) L B K :=
  Ops.neK (ks := ([IntKind.u32, IntKind.u32] ++ [IntKind.i64, IntKind.i64, IntKind.i64])) (cnI p) (cnI q) hg hx hy rfl rfl (hP ▸ eqCn.flat) (by rw [hP]; kernel_rfl) hn (by
    have e : (cnI p = cnI q) ↔ p = q := ⟨cnI_inj _ _, fun h => by rw [h]⟩
    rw [decide_eq_decide.2 e, ← decide_not]; exact h)
end
theorem gorSame : InGo Tryz.prog 26 := InGo.of Tryz.func26 rfl (by decide)
set_option maxHeartbeats 4000000 in
theorem rSame_ok (a b : List Cn) (ha : a.length ≤ 100000000) : Ok Tryz.prog 26 [cnsC a, cnsC b] (boolC (decide (a = b))) := by
  refine Ok.enter Tryz.func26 rfl _ Tryz.ntmps26 rfl ?_
  intro S w
  (refine Qw (Qx fun K hK => ?_); refine Qy rfl rfl rfl ?_; refine Qj (hK _ _ (Qz (Qw (Qw ?_)))); clear hK K; refine Qx (fun K hK => ?_); refine Qq rfl rfl rfl ?_)
  refine Qc rfl rfl (by with_reducible exact sCns.und) (List.length_map ..) rfl ?_
  (refine Qq rfl rfl rfl ?_)
  refine Qc rfl rfl (by with_reducible exact sCns.und) (List.length_map ..) rfl ?_
  (refine Qk ineq rfl rfl rfl rfl ?_; refine Qj (hK _ _ (Qz ?_)); clear hK K)
  refine Q2 rfl (fun h => ?_) (fun h => ?_)
  · (refine Qw (Qx fun K hK => ?_); refine Qy rfl rfl rfl ?_; refine Qj (hK _ _ (Qz (Q0 (QJ ?_)))); clear hK K)
    refine QU [_] rfl (Qu rfl QQ) (by rw [decide_eq_false (show ¬ a = b from fun e => by subst e; exact h rfl)]; rfl) rfl
  have hab : a.length = b.length := by
    by_cases e : a.length = b.length
    · exact e
    · exact absurd (fun h2 => e (by exact_mod_cast h2)) h
  (refine Q1 (Qz (Qw (Qw (Qx fun K hK => ?_)))); refine Qy rfl rfl rfl ?_; refine Qj (hK _ _ (Qz (Q7 ?_))); clear hK K)
  refine Xy (α := Nat) (fun i => i ≤ a.length ∧ ∀ j, j < i → a.getD j cn0 = b.getD j cn0)
    (fun i => [(0, .ct (cnsC a)), (1, .ct (cnsC b)), (5, .ct (intC i))]) (fun _ => []) (fun i => a.length - i) 0 ⟨Nat.zero_le _, fun j h => absurd h (Nat.not_lt_zero _)⟩ (by exact QX rfl ⟨rfl, rfl, rfl, trivial⟩) ?_
  rintro i ⟨hi, hv⟩
  dsimp only at hi hv ⊢
  (refine Qw (Qw (Qx fun K hK => ?_)); refine Qq rfl rfl rfl ?_; refine Qq rfl rfl rfl ?_)
  refine Qc rfl rfl (by with_reducible exact sCns.und) (List.length_map ..) rfl ?_
  (refine Qk ilss rfl rfl rfl rfl ?_; refine Qj (hK _ _ (Qz ?_)); clear hK K)
  refine Q2 rfl (fun h2 => ?_) (fun h2 => ?_)
  · have e2 : (i : Int).toNat = i := Int.toNat_natCast i
    (refine Q1 (Qz (Qw (Q7 (Qw ?_)))))
    refine XY (by with_reducible exact mixed) 9 (.p 0 (.p 1 (.p 2 (.p 4 (.p 5 (.p 6 (.f 3 (.f 7 (.p 8 .done))))))))) (by kernel_rfl) (fun K hK => ?_)
    (refine Qq rfl rfl rfl ?_; refine Qq rfl rfl rfl ?_)
    refine Qo rfl rfl rfl (by with_reducible exact sCns) (by omega) (cns_at (by omega) (by omega)) rfl ?_
    (refine Qq rfl rfl rfl ?_; refine Qq rfl rfl rfl ?_)
    refine Qo rfl rfl rfl (by with_reducible exact sCns) (by omega) (cns_at (by omega) (by omega)) rfl ?_
    skip
    refine XU (n := 5) rfl rfl rfl (by with_reducible exact lCn) rfl rfl ?_
    refine XU (n := 5) rfl rfl rfl (by with_reducible exact lCn) rfl rfl ?_
    rw [e2]
    refine neCn (a.getD i cn0) (b.getD i cn0) rfl rfl rfl rfl rfl ?_
    (refine Qj (hK _ _ (Qz ?_)); clear hK K)
    refine Q2 rfl (fun h3 => ?_) (fun h3 => ?_)
    · (refine Qw (Qx fun K hK => ?_); refine Qy rfl rfl rfl ?_; refine Qj (hK _ _ (Qz (Q0 (Q3 (QJ (QJ (Q3 (QJ ?_)))))))); clear hK K)
      refine QU [_] rfl (Qu rfl QQ) (by rw [decide_eq_false (show ¬ a = b from fun e => h3 (by rw [e]))]; rfl) rfl
    · have h3 : a.getD i cn0 = b.getD i cn0 := Decidable.not_not.1 h3
      (refine Q1 (Qz (Qx fun K hK => ?_)); refine Qq rfl rfl rfl ?_; refine Qk (iadd (by omega) (by omega)) rfl rfl rfl rfl ?_; refine Qy rfl rfl rfl ?_; refine Qj (hK _ _ (Q5 ?_)); clear hK K)
      refine Q9 (i + 1) (by omega) ⟨by omega, fun j hj => by rcases Nat.lt_succ_iff_lt_or_eq.1 hj with h4 | h4; exact hv j h4; subst h4; exact h3⟩ (by exact QX rfl ⟨rfl, rfl, by simp only [Int.natCast_add]; rfl, trivial⟩)
  · (refine Xq (Qz (Qw (Qx fun K hK => ?_))); refine Qy rfl rfl rfl ?_; refine Qj (hK _ _ (Qz (Q0 ?_))); clear hK K)
    refine QU [_] rfl (Qu rfl QQ) (by rw [decide_eq_true (same_list (z := cn0) hab fun j hj => hv j (by omega))]; rfl) rfl
def frZ : Fr := ⟨false, 0, 0⟩
def rateC (c : Cn) : CT := if c.lo < 0 ∨ c.hi < c.lo ∨ c.se < c.hi ∨ c.se < 1 then .fr (tupT [fracC frZ, fracC frZ, intC 1]) else .fr (tupT [ratC (Rat.divInt c.lo c.se), ratC (Rat.divInt c.hi c.se), intC 0])
theorem goRate : InGo Tryz.prog 19 := InGo.of Tryz.func19 rfl (by decide)
set_option maxHeartbeats 8000000 in
theorem Rate_ok (c : Cn) (h1 : -9223372036854775808 ≤ c.lo ∧ c.lo < 9223372036854775808) (h2 : -9223372036854775808 ≤ c.hi ∧ c.hi < 9223372036854775808) (h3 : -9223372036854775808 ≤ c.se ∧ c.se < 1073741824) : Ok Tryz.prog 19 [cnC c] (rateC c) := by
  have e : rateC c = if c.lo < 0 ∨ c.hi < c.lo ∨ c.se < c.hi ∨ c.se < 1 then .fr (tupT [fracC frZ, fracC frZ, intC 1]) else .fr (tupT [ratC (Rat.divInt c.lo c.se), ratC (Rat.divInt c.hi c.se), intC 0]) := rfl
  generalize rateC c = out at e ⊢
  refine Ok.enter Tryz.func19 rfl _ Tryz.ntmps19 rfl ?_
  intro S w0
  refine Qw ?_
  refine Qx (fun K hK => ?_)
  refine Xu 0 rfl rfl rfl rfl rfl rfl rfl ?_
  refine Qh 1 rfl rfl (by with_reducible exact zvFrac) rfl rfl rfl ?_
  refine Qh 2 rfl rfl (by with_reducible exact zvFrac) rfl rfl rfl ?_
  (refine Qy rfl rfl rfl ?_; refine Qj (hK _ _ (Qz (Qw (Qw ?_)))); clear hK K; refine Qx (fun K hK => ?_); refine QV rfl rfl rfl (by with_reducible first | exact fTk0 | exact fTk1 | exact fTk2 | exact fWr0 | exact fWr1 | exact X1 | exact X0 | exact Xi | exact fStm1 | exact fCn0 | exact fCn1 | exact fCn2 | exact fCn3 | exact fCs0 | exact fCs1) rfl ?_; refine QY rfl rfl rfl rfl rfl (by with_reducible first | exact lInt | exact Qd | exact Q8 | exact lRess) rfl ?_; refine Qk ilss rfl rfl rfl rfl ?_; refine Qq rfl rfl rfl ?_)
  refine Q6 8 rfl (fun g1 => ?_) (fun g1 => ?_)
  · rw [if_pos (.inl g1)] at e
    (refine Qv rfl rfl rfl ?_; refine Qv rfl rfl rfl ?_; refine Qv rfl rfl rfl ?_; refine Qv rfl rfl rfl ?_; refine Qv rfl rfl rfl ?_; refine QZ rfl rfl rfl rfl ?_; refine Qq rfl rfl rfl ?_; refine Qv rfl rfl rfl ?_; refine Qv rfl rfl rfl ?_; refine Qv rfl rfl rfl ?_; refine Qv rfl rfl rfl ?_; refine Qv rfl rfl rfl ?_; refine QZ rfl rfl rfl rfl ?_; refine Qq rfl rfl rfl ?_; refine Qv rfl rfl rfl ?_; refine Qv rfl rfl rfl ?_; refine Qv rfl rfl rfl ?_; refine QZ rfl rfl rfl rfl ?_; refine Qj (hK _ _ (Qz (Qn rfl (Qw ?_)))); clear hK K; refine Qx (fun K hK => ?_))
    refine Qt rfl (by with_reducible exact bFrac) rfl .nil rfl ?_
    refine Qt rfl (by with_reducible exact bFrac) rfl .nil rfl ?_
    refine Qa 3 rfl rfl rfl rfl rfl (by with_reducible exact szFrac) rfl rfl ?_
    refine Qa 3 rfl rfl rfl rfl rfl (by with_reducible exact szFrac) rfl rfl ?_
    (refine Qy rfl rfl rfl ?_; refine Qj (hK _ _ (Qz (Q0 (QJ ?_)))); clear hK K)
    refine QU [_, _, _] rfl (X3 (w_agg (ds := [boolC false, intsC [], intsC []]) (by exact ⟨w_same, Z4, Z4, trivial⟩)) (Qi (n := 3) rfl rfl (by with_reducible exact Zl) rfl (X3 (w_agg (ds := [boolC false, intsC [], intsC []]) (by exact ⟨w_same, Z4, Z4, trivial⟩)) (Qi (n := 3) rfl rfl (by with_reducible exact Zl) rfl (Qu rfl QQ))))) (by rw [e]; show CT.fr (tupT [.fr (aggT [boolC false, intsC (limbs 0), intsC (limbs 0)]), .fr (aggT [boolC false, intsC (limbs 0), intsC (limbs 0)]), intC 1]) = _; rw [limbs_zero]; rfl) rfl
  (refine QV rfl rfl rfl (by with_reducible first | exact fTk0 | exact fTk1 | exact fTk2 | exact fWr0 | exact fWr1 | exact X1 | exact X0 | exact Xi | exact fStm1 | exact fCn0 | exact fCn1 | exact fCn2 | exact fCn3 | exact fCs0 | exact fCs1) rfl ?_; refine QY rfl rfl rfl rfl rfl (by with_reducible first | exact lInt | exact Qd | exact Q8 | exact lRess) rfl ?_; refine QV rfl rfl rfl (by with_reducible first | exact fTk0 | exact fTk1 | exact fTk2 | exact fWr0 | exact fWr1 | exact X1 | exact X0 | exact Xi | exact fStm1 | exact fCn0 | exact fCn1 | exact fCn2 | exact fCn3 | exact fCs0 | exact fCs1) rfl ?_; refine QY rfl rfl rfl rfl rfl (by with_reducible first | exact lInt | exact Qd | exact Q8 | exact lRess) rfl ?_; refine Qk igtr rfl rfl rfl rfl ?_; refine QW rfl rfl rfl rfl ?_; refine Qq rfl rfl rfl ?_)
  refine Q6 15 rfl (fun g2 => ?_) (fun g2 => ?_)
  · rw [if_pos (.inr (.inl g2))] at e
    (refine Qv rfl rfl rfl ?_; refine Qv rfl rfl rfl ?_; refine Qv rfl rfl rfl ?_; refine Qv rfl rfl rfl ?_; refine Qv rfl rfl rfl ?_; refine QZ rfl rfl rfl rfl ?_; refine Qq rfl rfl rfl ?_; refine Qv rfl rfl rfl ?_; refine Qv rfl rfl rfl ?_; refine Qv rfl rfl rfl ?_; refine QZ rfl rfl rfl rfl ?_; refine Qj (hK _ _ (Qz (Qn rfl (Qw ?_)))); clear hK K; refine Qx (fun K hK => ?_))
    refine Qt rfl (by with_reducible exact bFrac) rfl .nil rfl ?_
    refine Qt rfl (by with_reducible exact bFrac) rfl .nil rfl ?_
    refine Qa 3 rfl rfl rfl rfl rfl (by with_reducible exact szFrac) rfl rfl ?_
    refine Qa 3 rfl rfl rfl rfl rfl (by with_reducible exact szFrac) rfl rfl ?_
    (refine Qy rfl rfl rfl ?_; refine Qj (hK _ _ (Qz (Q0 (QJ ?_)))); clear hK K)
    refine QU [_, _, _] rfl (X3 (w_agg (ds := [boolC false, intsC [], intsC []]) (by exact ⟨w_same, Z4, Z4, trivial⟩)) (Qi (n := 3) rfl rfl (by with_reducible exact Zl) rfl (X3 (w_agg (ds := [boolC false, intsC [], intsC []]) (by exact ⟨w_same, Z4, Z4, trivial⟩)) (Qi (n := 3) rfl rfl (by with_reducible exact Zl) rfl (Qu rfl QQ))))) (by rw [e]; show CT.fr (tupT [.fr (aggT [boolC false, intsC (limbs 0), intsC (limbs 0)]), .fr (aggT [boolC false, intsC (limbs 0), intsC (limbs 0)]), intC 1]) = _; rw [limbs_zero]; rfl) rfl
  (refine QV rfl rfl rfl (by with_reducible first | exact fTk0 | exact fTk1 | exact fTk2 | exact fWr0 | exact fWr1 | exact X1 | exact X0 | exact Xi | exact fStm1 | exact fCn0 | exact fCn1 | exact fCn2 | exact fCn3 | exact fCs0 | exact fCs1) rfl ?_; refine QY rfl rfl rfl rfl rfl (by with_reducible first | exact lInt | exact Qd | exact Q8 | exact lRess) rfl ?_; refine QV rfl rfl rfl (by with_reducible first | exact fTk0 | exact fTk1 | exact fTk2 | exact fWr0 | exact fWr1 | exact X1 | exact X0 | exact Xi | exact fStm1 | exact fCn0 | exact fCn1 | exact fCn2 | exact fCn3 | exact fCs0 | exact fCs1) rfl ?_; refine QY rfl rfl rfl rfl rfl (by with_reducible first | exact lInt | exact Qd | exact Q8 | exact lRess) rfl ?_; refine Qk igtr rfl rfl rfl rfl ?_; refine QW rfl rfl rfl rfl ?_; refine Qq rfl rfl rfl ?_)
  refine Q6 22 rfl (fun g3 => ?_) (fun g3 => ?_)
  · rw [if_pos (.inr (.inr (.inl g3)))] at e
    (refine Qv rfl rfl rfl ?_; refine Qv rfl rfl rfl ?_; refine Qv rfl rfl rfl ?_; refine QZ rfl rfl rfl rfl ?_; refine Qj (hK _ _ (Qz (Qn rfl (Qw ?_)))); clear hK K; refine Qx (fun K hK => ?_))
    refine Qt rfl (by with_reducible exact bFrac) rfl .nil rfl ?_
    refine Qt rfl (by with_reducible exact bFrac) rfl .nil rfl ?_
    refine Qa 3 rfl rfl rfl rfl rfl (by with_reducible exact szFrac) rfl rfl ?_
    refine Qa 3 rfl rfl rfl rfl rfl (by with_reducible exact szFrac) rfl rfl ?_
    (refine Qy rfl rfl rfl ?_; refine Qj (hK _ _ (Qz (Q0 (QJ ?_)))); clear hK K)
    refine QU [_, _, _] rfl (X3 (w_agg (ds := [boolC false, intsC [], intsC []]) (by exact ⟨w_same, Z4, Z4, trivial⟩)) (Qi (n := 3) rfl rfl (by with_reducible exact Zl) rfl (X3 (w_agg (ds := [boolC false, intsC [], intsC []]) (by exact ⟨w_same, Z4, Z4, trivial⟩)) (Qi (n := 3) rfl rfl (by with_reducible exact Zl) rfl (Qu rfl QQ))))) (by rw [e]; show CT.fr (tupT [.fr (aggT [boolC false, intsC (limbs 0), intsC (limbs 0)]), .fr (aggT [boolC false, intsC (limbs 0), intsC (limbs 0)]), intC 1]) = _; rw [limbs_zero]; rfl) rfl
  (refine QV rfl rfl rfl (by with_reducible first | exact fTk0 | exact fTk1 | exact fTk2 | exact fWr0 | exact fWr1 | exact X1 | exact X0 | exact Xi | exact fStm1 | exact fCn0 | exact fCn1 | exact fCn2 | exact fCn3 | exact fCs0 | exact fCs1) rfl ?_; refine QY rfl rfl rfl rfl rfl (by with_reducible first | exact lInt | exact Qd | exact Q8 | exact lRess) rfl ?_; refine Qk ilss rfl rfl rfl rfl ?_; refine QW rfl rfl rfl rfl ?_; refine Qj (hK _ _ (Qz ?_)); clear hK K)
  refine Q2 rfl (fun g4 => ?_) (fun g4 => ?_)
  · rw [if_pos (.inr (.inr (.inr g4)))] at e
    (refine Qw (Qx fun K hK => ?_))
    refine Qt rfl (by with_reducible exact bFrac) rfl .nil rfl ?_
    refine Qt rfl (by with_reducible exact bFrac) rfl .nil rfl ?_
    refine Qa 3 rfl rfl rfl rfl rfl (by with_reducible exact szFrac) rfl rfl ?_
    refine Qa 3 rfl rfl rfl rfl rfl (by with_reducible exact szFrac) rfl rfl ?_
    (refine Qy rfl rfl rfl ?_; refine Qj (hK _ _ (Qz (Q0 (QJ ?_)))); clear hK K)
    refine QU [_, _, _] rfl (X3 (w_agg (ds := [boolC false, intsC [], intsC []]) (by exact ⟨w_same, Z4, Z4, trivial⟩)) (Qi (n := 3) rfl rfl (by with_reducible exact Zl) rfl (X3 (w_agg (ds := [boolC false, intsC [], intsC []]) (by exact ⟨w_same, Z4, Z4, trivial⟩)) (Qi (n := 3) rfl rfl (by with_reducible exact Zl) rfl (Qu rfl QQ))))) (by rw [e]; show CT.fr (tupT [.fr (aggT [boolC false, intsC (limbs 0), intsC (limbs 0)]), .fr (aggT [boolC false, intsC (limbs 0), intsC (limbs 0)]), intC 1]) = _; rw [limbs_zero]; rfl) rfl
  rw [if_neg (fun h => h.elim g1 (fun h => h.elim g2 (fun h => h.elim g3 g4)))] at e
  have hF1 := FFrom_ok c.lo c.se (by omega) (by omega) (by omega) (by omega) (by omega)
  have hF2 := FFrom_ok c.hi c.se (by omega) (by omega) (by omega) (by omega) (by omega)
  (refine Q1 (Qz (Qw (Qx fun K hK => ?_))); refine QV rfl rfl rfl (by with_reducible first | exact fTk0 | exact fTk1 | exact fTk2 | exact fWr0 | exact fWr1 | exact X1 | exact X0 | exact Xi | exact fStm1 | exact fCn0 | exact fCn1 | exact fCn2 | exact fCn3 | exact fCs0 | exact fCs1) rfl ?_; refine QY rfl rfl rfl rfl rfl (by with_reducible first | exact lInt | exact Qd | exact Q8 | exact lRess) rfl ?_; refine QV rfl rfl rfl (by with_reducible first | exact fTk0 | exact fTk1 | exact fTk2 | exact fWr0 | exact fWr1 | exact X1 | exact X0 | exact Xi | exact fStm1 | exact fCn0 | exact fCn1 | exact fCn2 | exact fCn3 | exact fCs0 | exact fCs1) rfl ?_; refine QY rfl rfl rfl rfl rfl (by with_reducible first | exact lInt | exact Qd | exact Q8 | exact lRess) rfl ?_)
  refine QK goFFrom hF1 rfl rfl rfl rfl ?_
  (refine Qq rfl rfl rfl ?_; refine Qf rfl rfl rfl rfl ?_; refine Qf rfl rfl rfl rfl ?_)
  refine Qa 3 rfl rfl rfl rfl rfl (by with_reducible exact szFrac) rfl rfl ?_
  (refine Qj (hK _ _ (Qz (Qw ?_))); clear hK K; refine Qx (fun K hK => ?_); refine QV rfl rfl rfl (by with_reducible first | exact fTk0 | exact fTk1 | exact fTk2 | exact fWr0 | exact fWr1 | exact X1 | exact X0 | exact Xi | exact fStm1 | exact fCn0 | exact fCn1 | exact fCn2 | exact fCn3 | exact fCs0 | exact fCs1) rfl ?_; refine QY rfl rfl rfl rfl rfl (by with_reducible first | exact lInt | exact Qd | exact Q8 | exact lRess) rfl ?_; refine QV rfl rfl rfl (by with_reducible first | exact fTk0 | exact fTk1 | exact fTk2 | exact fWr0 | exact fWr1 | exact X1 | exact X0 | exact Xi | exact fStm1 | exact fCn0 | exact fCn1 | exact fCn2 | exact fCn3 | exact fCs0 | exact fCs1) rfl ?_; refine QY rfl rfl rfl rfl rfl (by with_reducible first | exact lInt | exact Qd | exact Q8 | exact lRess) rfl ?_)
  refine QK goFFrom hF2 rfl rfl rfl rfl ?_
  (refine Qq rfl rfl rfl ?_; refine Qf rfl rfl rfl rfl ?_; refine Qf rfl rfl rfl rfl ?_)
  refine Qa 3 rfl rfl rfl rfl rfl (by with_reducible exact szFrac) rfl rfl ?_
  (refine Qj (hK _ _ (Qz (Qw ?_))); clear hK K)
  refine St.drawQ (by with_reducible exact mixed) [2, 3] (.f 0 (.m 1 (.a 2 (.a 3 (.p 4 .done) .non) .non) (.a 2 (.f 1 (.a 3 (.p 4 .done) .non)) .non))) (by kernel_rfl) (fun K hK => ?_)
  refine XV ?_
  refine Q4 (n := 3) rfl rfl rfl rfl rfl (by with_reducible exact Zl) rfl ?_
  refine Qj ?_
  refine XK ?_ ?_
  · refine Q4 (n := 3) rfl rfl rfl rfl rfl (by with_reducible exact Zl) rfl ?_
    refine Qj ?_
    refine XZ ?_ Qg
    refine Qa 3 rfl rfl rfl rfl rfl (by with_reducible exact szFrac) rfl rfl ?_
    refine Qj ?_
    refine XZ ?_ Qg
    refine Qa 3 rfl rfl rfl rfl rfl (by with_reducible exact szFrac) rfl rfl ?_
    refine Qj ?_
    refine Qp ?_
    refine Qy rfl rfl rfl ?_
    refine Qj ?_
    refine Xk (hK _ _ ?_)
    (refine Qz (Q0 ?_))
    refine QU [_, _, _] rfl (Qi (n := 3) rfl rfl (by with_reducible exact Zl) rfl (Qi (n := 3) rfl rfl (by with_reducible exact Zl) rfl (Qu rfl QQ))) (by rw [e]; rfl) rfl
  refine XZ ?_ Qg
  refine Qa 3 rfl rfl rfl rfl rfl (by with_reducible exact szFrac) rfl rfl ?_
  refine Qj ?_
  refine XV ?_
  refine Q4 (n := 3) rfl rfl rfl rfl rfl (by with_reducible exact Zl) rfl ?_
  refine Qj ?_
  refine XZ ?_ Qg
  refine Qa 3 rfl rfl rfl rfl rfl (by with_reducible exact szFrac) rfl rfl ?_
  refine Qj ?_
  refine Qp ?_
  refine Qy rfl rfl rfl ?_
  refine Qj ?_
  refine Xk (hK _ _ ?_)
  (refine Qz (Q0 ?_))
  refine QU [_, _, _] rfl (Qi (n := 3) rfl rfl (by with_reducible exact Zl) rfl (Qi (n := 3) rfl rfl (by with_reducible exact Zl) rfl (Qu rfl QQ))) (by rw [e]; rfl) rfl
end Go.Proofs.YtlkdkbdgnjcopaaGreat
namespace Go.Proofs.YtlkdkbdgnjcopaaGreat
open Go.Own Go.Limbs
attribute [local irreducible] St Ops Go.Own.Fin Ok OkB OkN wpA
def eqFr (f g : Fr) : Bool := decide (f.neg = g.neg ∧ limbs f.num = limbs g.num ∧ limbs f.den = limbs g.den)
theorem eqFr_self (f : Fr) : eqFr f f = true := decide_eq_true ⟨rfl, rfl, rfl⟩
theorem ext_getD {xs ys : List Int} (hl : xs.length = ys.length) (h : ∀ j, j < xs.length → xs.getD j 0 = ys.getD j 0) : xs = ys := by
  refine List.ext_getElem hl fun j h1 h2 => ?_
  have := h j h1
  simpa [List.getD_eq_getElem?_getD, List.getElem?_eq_getElem h1, List.getElem?_eq_getElem h2] using this
theorem goEqual : InGo Tryz.prog 34 := InGo.of Tryz.func34 rfl (by decide)
set_option maxHeartbeats 4000000 in
theorem Equal_ok (f g : Fr) (hn : (limbs f.num).length ≤ 1000) (hd : (limbs f.den).length ≤ 1000) (hn2 : (limbs g.num).length ≤ 1000) (hd2 : (limbs g.den).length ≤ 1000) : Ok Tryz.prog 34 [fracC f, fracC g] (boolC (eqFr f g)) := by
  have no1 : f.neg ≠ g.neg → eqFr f g = false := fun h => decide_eq_false fun e => h e.1
  have no2 : limbs f.num ≠ limbs g.num → eqFr f g = false := fun h => decide_eq_false fun e => h e.2.1
  have no3 : limbs f.den ≠ limbs g.den → eqFr f g = false := fun h => decide_eq_false fun e => h e.2.2
  have yes : f.neg = g.neg → limbs f.num = limbs g.num → limbs f.den = limbs g.den → eqFr f g = true := fun h1 h2 h3 => decide_eq_true ⟨h1, h2, h3⟩
  generalize eqFr f g = e at no1 no2 no3 yes ⊢
  refine Ok.enter Tryz.func34 rfl _ Tryz.ntmps34 rfl ?_
  intro S w
  (refine Qw (Qx fun K hK => ?_); refine Xu 0 rfl rfl rfl rfl rfl rfl rfl ?_; refine Xu 1 rfl rfl rfl rfl rfl rfl rfl ?_; refine Qy rfl rfl rfl ?_; refine Qj (hK _ _ (Qz (Qw (Qw ?_)))); clear hK K; refine Qx (fun K hK => ?_); refine QV rfl rfl rfl (by with_reducible first | exact fF0 | exact fF1 | exact fF2 | exact fR0 | exact fR1) rfl ?_; refine QY rfl rfl rfl rfl rfl (by with_reducible first | exact lInt | exact lNat | exact lBool | exact lInts) rfl ?_; refine QV rfl rfl rfl (by with_reducible first | exact fF0 | exact fF1 | exact fF2 | exact fR0 | exact fR1) rfl ?_; refine QY rfl rfl rfl rfl rfl (by with_reducible first | exact lInt | exact lNat | exact lBool | exact lInts) rfl ?_)
  refine Ops.bne rfl rfl rfl (by with_reducible exact uBool) rfl ?_
  (refine Qq rfl rfl rfl ?_)
  refine Q6 12 rfl (fun h1 => ?_) (fun h1 => ?_)
  · (refine Qv rfl rfl rfl ?_; refine Qv rfl rfl rfl ?_; refine Qv rfl rfl rfl ?_; refine Qv rfl rfl rfl ?_; refine Qv rfl rfl rfl ?_; refine Qv rfl rfl rfl ?_; refine Qv rfl rfl rfl ?_; refine QZ rfl rfl rfl rfl ?_; refine Qq rfl rfl rfl ?_; refine Qv rfl rfl rfl ?_; refine Qv rfl rfl rfl ?_; refine Qv rfl rfl rfl ?_; refine Qv rfl rfl rfl ?_; refine Qv rfl rfl rfl ?_; refine Qv rfl rfl rfl ?_; refine Qv rfl rfl rfl ?_; refine QZ rfl rfl rfl rfl ?_; refine Qj (hK _ _ (Qz (Qn rfl (Qw ?_)))); clear hK K; refine Qx (fun K hK => ?_); refine Qy rfl rfl rfl ?_; refine Qj (hK _ _ (Qz (Q0 (QJ ?_)))); clear hK K)
    refine QU [_] rfl (Qu rfl QQ) (by rw [no1 h1]; rfl) rfl
  have h1 : f.neg = g.neg := Decidable.byContradiction h1
  (refine QV rfl rfl rfl (by with_reducible first | exact fF0 | exact fF1 | exact fF2 | exact fR0 | exact fR1) rfl ?_; refine QY rfl rfl rfl rfl rfl (by with_reducible first | exact lInt | exact lNat | exact lBool | exact lInts) rfl ?_; refine Qc rfl rfl (by with_reducible first | exact sNat.und | exact sInts.und) (List.length_map ..) rfl ?_; refine QV rfl rfl rfl (by with_reducible first | exact fF0 | exact fF1 | exact fF2 | exact fR0 | exact fR1) rfl ?_; refine QY rfl rfl rfl rfl rfl (by with_reducible first | exact lInt | exact lNat | exact lBool | exact lInts) rfl ?_; refine Qc rfl rfl (by with_reducible first | exact sNat.und | exact sInts.und) (List.length_map ..) rfl ?_; refine Qk ineq rfl rfl rfl rfl ?_; refine QW rfl rfl rfl rfl ?_; refine Qq rfl rfl rfl ?_)
  refine Q6 21 rfl (fun h2 => ?_) (fun h2 => ?_)
  · (refine Qv rfl rfl rfl ?_; refine Qv rfl rfl rfl ?_; refine Qv rfl rfl rfl ?_; refine Qv rfl rfl rfl ?_; refine Qv rfl rfl rfl ?_; refine Qv rfl rfl rfl ?_; refine Qv rfl rfl rfl ?_; refine QZ rfl rfl rfl rfl ?_; refine Qj (hK _ _ (Qz (Qn rfl (Qw ?_)))); clear hK K; refine Qx (fun K hK => ?_); refine Qy rfl rfl rfl ?_; refine Qj (hK _ _ (Qz (Q0 (QJ ?_)))); clear hK K)
    refine QU [_] rfl (Qu rfl QQ) (by rw [no2 (fun h => h2 (by rw [h]))]; rfl) rfl
  have h2 : (limbs f.num).length = (limbs g.num).length := by
    have := Decidable.byContradiction h2
    omega
  (refine QV rfl rfl rfl (by with_reducible first | exact fF0 | exact fF1 | exact fF2 | exact fR0 | exact fR1) rfl ?_; refine QY rfl rfl rfl rfl rfl (by with_reducible first | exact lInt | exact lNat | exact lBool | exact lInts) rfl ?_; refine Qc rfl rfl (by with_reducible first | exact sNat.und | exact sInts.und) (List.length_map ..) rfl ?_; refine QV rfl rfl rfl (by with_reducible first | exact fF0 | exact fF1 | exact fF2 | exact fR0 | exact fR1) rfl ?_; refine QY rfl rfl rfl rfl rfl (by with_reducible first | exact lInt | exact lNat | exact lBool | exact lInts) rfl ?_; refine Qc rfl rfl (by with_reducible first | exact sNat.und | exact sInts.und) (List.length_map ..) rfl ?_; refine Qk ineq rfl rfl rfl rfl ?_; refine QW rfl rfl rfl rfl ?_; refine Qj (hK _ _ (Qz ?_)); clear hK K)
  refine Q2 rfl (fun h3 => ?_) (fun h3 => ?_)
  · (refine Qw (Qx fun K hK => ?_); refine Qy rfl rfl rfl ?_; refine Qj (hK _ _ (Qz (Q0 (QJ ?_)))); clear hK K)
    refine QU [_] rfl (Qu rfl QQ) (by rw [no3 (fun h => h3 (by rw [h]))]; rfl) rfl
  have h3 : (limbs f.den).length = (limbs g.den).length := by
    have := Decidable.byContradiction h3
    omega
  (refine Q1 (Qz (Qw (Qw (Qx fun K hK => ?_)))); refine Qy rfl rfl rfl ?_; refine Qj (hK _ _ (Qz (Q7 ?_))); clear hK K)
  refine Xy (α := Nat) (fun k => k ≤ (limbs f.num).length ∧ ∀ j, j < k → (limbs f.num).getD j 0 = (limbs g.num).getD j 0)
    (fun k => [(2, .own 0), (3, .own 1), (5, .ct (intC k))]) (fun _ => [(1, .box 53 (frCs g)), (0, .box 53 (frCs f))]) (fun k => (limbs f.num).length - k) 0 ⟨Nat.zero_le _, fun j h => absurd h (Nat.not_lt_zero j)⟩ (by exact QX rfl ⟨rfl, rfl, rfl, trivial⟩) ?_
  intro k ⟨hk, hv⟩
  dsimp only at hk ⊢
  have e2 : (k : Int).toNat = k := Int.toNat_natCast k
  (refine Qw (Qw (Qx fun K hK => ?_)); refine Qq rfl rfl rfl ?_; refine QV rfl rfl rfl (by with_reducible first | exact fF0 | exact fF1 | exact fF2 | exact fR0 | exact fR1) rfl ?_; refine QY rfl rfl rfl rfl rfl (by with_reducible first | exact lInt | exact lNat | exact lBool | exact lInts) rfl ?_; refine Qc rfl rfl (by with_reducible first | exact sNat.und | exact sInts.und) (List.length_map ..) rfl ?_; refine Qk ilss rfl rfl rfl rfl ?_; refine Qj (hK _ _ (Qz ?_)); clear hK K)
  refine Q2 rfl (fun h => ?_) (fun h => ?_)
  · (refine Q1 (Qz (Qw (Q7 (Qw ?_)))))
    refine XY (by with_reducible exact mixed) 11 (.p 0 (.p 2 (.p 5 (.p 7 (.f 1 (.p 3 (.f 4 (.f 6 (.p 8 (.f 9 (.p 10 .done))))))))))) (by kernel_rfl) (fun K hK => ?_)
    (refine QV rfl rfl rfl (by with_reducible first | exact fF0 | exact fF1 | exact fF2 | exact fR0 | exact fR1) rfl ?_; refine Qq rfl rfl rfl ?_; refine QV rfl rfl rfl (by with_reducible first | exact fF0 | exact fF1 | exact fF2 | exact fR0 | exact fR1) rfl ?_; refine Qq rfl rfl rfl ?_; refine QY rfl rfl rfl rfl rfl (by with_reducible first | exact lInt | exact lNat | exact lBool | exact lInts) rfl ?_; refine Qo rfl rfl rfl (by with_reducible first | exact sNat | exact sInts) (by omega) (X8 (by omega) (by omega)) rfl ?_; refine XJ rfl rfl rfl (by with_reducible first | exact lInt | exact lNat | exact lBool | exact lInts) rfl ?_; refine QY rfl rfl rfl rfl rfl (by with_reducible first | exact lInt | exact lNat | exact lBool | exact lInts) rfl ?_; refine Qo rfl rfl rfl (by with_reducible first | exact sNat | exact sInts) (by omega) (X8 (by omega) (by omega)) rfl ?_; refine XJ rfl rfl rfl (by with_reducible first | exact lInt | exact lNat | exact lBool | exact lInts) rfl ?_; refine Qk ineq rfl rfl rfl rfl ?_; refine Qj (hK _ _ (Qz ?_)); clear hK K)
    refine Q2 rfl (fun h4 => ?_) (fun h4 => ?_)
    · rw [e2] at h4
      (refine Qw (Qx fun K hK => ?_); refine Qy rfl rfl rfl ?_; refine Qj (hK _ _ (Qz (Q0 (Q3 (QJ (QJ (Q3 (QJ ?_)))))))); clear hK K)
      refine QU [_] rfl (Qu rfl QQ) (by rw [no2 (fun h => h4 (by rw [h]))]; rfl) rfl
    · rw [e2] at h4
      have h4 := Decidable.byContradiction h4
      (refine Q1 (Qz (Qx fun K hK => ?_)); refine Qq rfl rfl rfl ?_; refine Qk (iadd (by omega) (by omega)) rfl rfl rfl rfl ?_; refine Qy rfl rfl rfl ?_; refine Qj (hK _ _ (Q5 ?_)); clear hK K)
      refine Q9 (k + 1) (by omega) ⟨by omega, fun j hj => ?_⟩ (by exact QX rfl ⟨rfl, rfl, by simp only [Int.natCast_add]; rfl, trivial⟩)
      rcases Nat.lt_or_ge j k with h5 | h5
      · exact hv j h5
      · have : j = k := by omega
        rw [this]; exact h4
  · have hnum : limbs f.num = limbs g.num := ext_getD h2 fun j hj => hv j (by omega)
    clear hv
    (refine Xq (Qz (Qw (Qw (Qx fun K hK => ?_)))); refine Qy rfl rfl rfl ?_; refine Qj (hK _ _ (Qz (Q7 ?_))); clear hK K)
    refine Xy (α := Nat) (fun k => k ≤ (limbs f.den).length ∧ ∀ j, j < k → (limbs f.den).getD j 0 = (limbs g.den).getD j 0)
      (fun k => [(2, .own 0), (3, .own 1), (6, .ct (intC k))]) (fun _ => [(1, .box 53 (frCs g)), (0, .box 53 (frCs f))]) (fun k => (limbs f.den).length - k) 0 ⟨Nat.zero_le _, fun j h => absurd h (Nat.not_lt_zero j)⟩ (by exact QX rfl ⟨rfl, rfl, rfl, trivial⟩) ?_
    clear hk e2 h
    clear k
    intro k ⟨hk, hv⟩
    dsimp only at hk ⊢
    have e2 : (k : Int).toNat = k := Int.toNat_natCast k
    (refine Qw (Qw (Qx fun K hK => ?_)); refine Qq rfl rfl rfl ?_; refine QV rfl rfl rfl (by with_reducible first | exact fF0 | exact fF1 | exact fF2 | exact fR0 | exact fR1) rfl ?_; refine QY rfl rfl rfl rfl rfl (by with_reducible first | exact lInt | exact lNat | exact lBool | exact lInts) rfl ?_; refine Qc rfl rfl (by with_reducible first | exact sNat.und | exact sInts.und) (List.length_map ..) rfl ?_; refine Qk ilss rfl rfl rfl rfl ?_; refine Qj (hK _ _ (Qz ?_)); clear hK K)
    refine Q2 rfl (fun h => ?_) (fun h => ?_)
    · (refine Q1 (Qz (Qw (Q7 (Qw ?_)))))
      refine XY (by with_reducible exact mixed) 11 (.p 0 (.p 2 (.p 5 (.p 7 (.f 1 (.p 3 (.f 4 (.f 6 (.p 8 (.f 9 (.p 10 .done))))))))))) (by kernel_rfl) (fun K hK => ?_)
      (refine QV rfl rfl rfl (by with_reducible first | exact fF0 | exact fF1 | exact fF2 | exact fR0 | exact fR1) rfl ?_; refine Qq rfl rfl rfl ?_; refine QV rfl rfl rfl (by with_reducible first | exact fF0 | exact fF1 | exact fF2 | exact fR0 | exact fR1) rfl ?_; refine Qq rfl rfl rfl ?_; refine QY rfl rfl rfl rfl rfl (by with_reducible first | exact lInt | exact lNat | exact lBool | exact lInts) rfl ?_; refine Qo rfl rfl rfl (by with_reducible first | exact sNat | exact sInts) (by omega) (X8 (by omega) (by omega)) rfl ?_; refine XJ rfl rfl rfl (by with_reducible first | exact lInt | exact lNat | exact lBool | exact lInts) rfl ?_; refine QY rfl rfl rfl rfl rfl (by with_reducible first | exact lInt | exact lNat | exact lBool | exact lInts) rfl ?_; refine Qo rfl rfl rfl (by with_reducible first | exact sNat | exact sInts) (by omega) (X8 (by omega) (by omega)) rfl ?_; refine XJ rfl rfl rfl (by with_reducible first | exact lInt | exact lNat | exact lBool | exact lInts) rfl ?_; refine Qk ineq rfl rfl rfl rfl ?_; refine Qj (hK _ _ (Qz ?_)); clear hK K)
      refine Q2 rfl (fun h4 => ?_) (fun h4 => ?_)
      · rw [e2] at h4
        (refine Qw (Qx fun K hK => ?_); refine Qy rfl rfl rfl ?_; refine Qj (hK _ _ (Qz (Q0 (Q3 (QJ (QJ (Q3 (QJ ?_)))))))); clear hK K)
        refine QU [_] rfl (Qu rfl QQ) (by rw [no3 (fun h => h4 (by rw [h]))]; rfl) rfl
      · rw [e2] at h4
        have h4 := Decidable.byContradiction h4
        (refine Q1 (Qz (Qx fun K hK => ?_)); refine Qq rfl rfl rfl ?_; refine Qk (iadd (by omega) (by omega)) rfl rfl rfl rfl ?_; refine Qy rfl rfl rfl ?_; refine Qj (hK _ _ (Q5 ?_)); clear hK K)
        refine Q9 (k + 1) (by omega) ⟨by omega, fun j hj => ?_⟩ (by exact QX rfl ⟨rfl, rfl, by simp only [Int.natCast_add]; rfl, trivial⟩)
        rcases Nat.lt_or_ge j k with h5 | h5
        · exact hv j h5
        · have : j = k := by omega
          rw [this]; exact h4
    · have hden : limbs f.den = limbs g.den := ext_getD h3 fun j hj => hv j (by omega)
      clear hv
      (refine Xq (Qz (Qw (Qx fun K hK => ?_))); refine Qy rfl rfl rfl ?_; refine Qj (hK _ _ (Qz (Q0 ?_))); clear hK K)
      refine QU [_] rfl (Qu rfl QQ) (by rw [yes h1 hnum hden]; rfl) rfl
end Go.Proofs.YtlkdkbdgnjcopaaGreat
namespace Go.Proofs.YtlkdkbdgnjcopaaGreat
open Go.Own Go.Limbs
attribute [local irreducible] St Ops Go.Own.Fin Ok OkB OkN OkT OkL OkF OkM
def dA : List (Int × Int) := [(2, 1), (2, 1), (2, 1), (2, 0), (2, 0), (2, 0), (2, 0), (2, 0), (2, 0), (2, 0), (1, 0)]
theorem dA_low : ∀ i, i < 3 → dA.getD i (0, 0) = (2, 1) := by decide
theorem dA_mid : ∀ i, i < 10 → 2 < i → dA.getD i (0, 0) = (2, 0) := by decide
theorem dA_cnt : cntF (xF 5 0 dA) (wk 2) 1 = (⟨wk 2, 10, 2, 3⟩, 0) := by
  rw [xF_cnt (n := 2) (by decide) (by decide) (by decide) (by decide) (fun t h1 h2 => ?_) (by decide) (by decide) (by decide) (by decide)]
  · decide
  · have : t = 1 ∨ t = 2 := by omega
    rcases this with h | h <;> subst h <;> decide
theorem q2n : (ofQ (Rat.divInt 2 10)).num = 1 := by kernel_rfl
theorem q2d : (ofQ (Rat.divInt 2 10)).den = 5 := by kernel_rfl
theorem q3n : (ofQ (Rat.divInt 3 10)).num = 3 := by kernel_rfl
theorem q3d : (ofQ (Rat.divInt 3 10)).den = 10 := by kernel_rfl
theorem eq_low : eqFr (ofQ (Rat.divInt 2 10)) (ofQ (Rat.divInt 3 10)) = false := decide_eq_false fun h => by
  have h := h.2.1
  rw [q2n, q3n, Z0 (by decide) (by decide), Z0 (by decide) (by decide)] at h
  exact absurd h (by decide)
theorem goawake : InGo Tryz.prog 9 := InGo.of Tryz.func9 rfl (by decide)
set_option maxHeartbeats 8000000 in
theorem awake_ok : Ok Tryz.prog 9 [] (boolC true) := by
  have hC := Count_ok (xF 5 0 dA) (by rw [xF_len]; decide) (wk 2) 1
  rw [dA_cnt] at hC
  have hR := Rate_ok ⟨wk 2, 10, 2, 3⟩ (by decide) (by decide) (by decide)
  rw [show rateC ⟨wk 2, 10, 2, 3⟩ = .fr (tupT [ratC (Rat.divInt 2 10), ratC (Rat.divInt 3 10), intC 0]) from if_neg (by decide)] at hR
  have hF := rFrom_ok 3 10 (by decide) (by decide) (by decide) (by decide) (by decide)
  have b1 : (limbs (ofQ (Rat.divInt 2 10)).num).length ≤ 1000 ∧ (limbs (ofQ (Rat.divInt 2 10)).den).length ≤ 1000 ∧ (limbs (ofQ (Rat.divInt 3 10)).num).length ≤ 1000 ∧ (limbs (ofQ (Rat.divInt 3 10)).den).length ≤ 1000 := by
    rw [q2n, q2d, q3n, q3d, Z0 (by decide) (by decide), Z0 (by decide) (by decide), Z0 (by decide) (by decide), Z0 (by decide) (by decide)]; decide
  have hE1 := Equal_ok (ofQ (Rat.divInt 3 10)) (ofQ (Rat.divInt 3 10)) b1.2.2.1 b1.2.2.2 b1.2.2.1 b1.2.2.2
  rw [eqFr_self] at hE1
  have hE2 := Equal_ok (ofQ (Rat.divInt 2 10)) (ofQ (Rat.divInt 3 10)) b1.1 b1.2.1 b1.2.2.1 b1.2.2.2
  rw [eq_low] at hE2
  refine Ok.enter Tryz.func9 rfl _ Tryz.ntmps9 rfl ?_
  intro S w0
  (refine Qw (Qx fun K hK => ?_); refine Qy rfl rfl rfl ?_; refine Qj (hK _ _ (Qz (Qw ?_))); clear hK K; refine Qx (fun K hK => ?_); refine Qy rfl rfl rfl ?_; refine Qj (hK _ _ (Qz (Qw (Qw ?_)))); clear hK K; refine Qx (fun K hK => ?_); refine Qy rfl rfl rfl ?_; refine Qj (hK _ _ (Qz (Q7 ?_))); clear hK K)
  refine Zq 1 0 35 17 rfl rfl rfl ?_
  refine Xy (α := Nat) (fun i => i ≤ 11) (fun i => [(1, .own 0), (2, .ct (intC i))]) (fun i => [(0, .row 35 17 (rss (xF 5 0 (dA.take i))))]) (fun i => 11 - i) 0 (Nat.zero_le _) (by exact QX rfl ⟨rfl, rfl, trivial⟩) ?_
  intro i hi
  try dsimp only at hi ⊢
  (refine Qw (Qw (Qx fun K hK => ?_)); refine Qq rfl rfl rfl ?_; refine Qk ilss rfl rfl rfl rfl ?_; refine Qj (hK _ _ (Qz ?_)); clear hK K)
  refine Q2 rfl (fun h => ?_) (fun h => ?_)
  · have hx := take_snoc (z := ((0, 0) : Int × Int)) (l := dA) (i := i) (by show i < 11; omega)
    have hlen2 : (dA.take i).length = i := by rw [List.length_take]; show min i 11 = i; omega
    have hlen : (xF 5 0 (dA.take i)).length = i := by rw [xF_len, hlen2]
    (refine Q1 (Qz (Qw (Q7 (Qw (Qx fun K hK => ?_))))); refine Qq rfl rfl rfl ?_; refine Qq rfl rfl rfl ?_; refine Qk (imul (by omega) (by omega)) rfl rfl rfl rfl ?_; refine Qq rfl rfl rfl ?_; refine Qk (imul (by omega) (by omega)) rfl rfl rfl rfl ?_; refine Qk (iadd (by omega) (by omega)) rfl rfl rfl rfl ?_)
    refine Qt rfl (by with_reducible exact bRes) rfl (.one rfl rfl rfl rfl (.one rfl rfl rfl rfl (.one rfl rfl rfl rfl (.one rfl rfl rfl rfl (.one rfl rfl rfl rfl (.one rfl rfl rfl rfl .nil)))))) rfl ?_
    refine Qh 1 rfl rfl (by with_reducible exact zvRes) rfl rfl rfl ?_
    refine Qa 17 rfl rfl rfl rfl rfl (by with_reducible exact Yz) rfl rfl ?_
    (refine Qj (hK _ _ (Qz (Qw (Qw ?_)))); clear hK K; refine Qx (fun K hK => ?_); refine Qq rfl rfl rfl ?_; refine Qk ieql rfl rfl rfl rfl ?_; refine Qj (hK _ _ (Qz ?_)); clear hK K)
    refine Q2 rfl (fun g => ?_) (fun g => ?_)
    · have hi10 : i = 10 := by omega
      subst hi10
      have HD : dA.getD 10 (0, 0) = (1, 0) := rfl
      (refine Qx (fun K hK => ?_); refine QV rfl rfl rfl (by with_reducible first | exact fS0 | exact fS1 | exact fS2 | exact fS3 | exact fS4 | exact fS5 | exact fS6 | exact fS7 | exact fS8 | exact fS9 | exact fS10 | exact fS11 | exact fN0 | exact fN1 | exact fN2 | exact fN3 | exact fN4 | exact fN5) rfl ?_; refine Xc rfl rfl rfl rfl rfl (by with_reducible first | exact zInt | exact zAddr | exact zClaims) (Nat.le_of_ble_eq_true rfl) ?_; refine Qj (hK _ _ (Qz (Qw (Qw ?_)))); clear hK K; refine Qx (fun K hK => ?_); refine Qq rfl rfl rfl ?_; refine Qk igtr rfl rfl rfl rfl ?_; refine Qj (hK _ _ (Qz (Qn rfl ?_))); clear hK K; refine Qx (fun K hK => ?_); refine QV rfl rfl rfl (by with_reducible first | exact fS0 | exact fS1 | exact fS2 | exact fS3 | exact fS4 | exact fS5 | exact fS6 | exact fS7 | exact fS8 | exact fS9 | exact fS10 | exact fS11 | exact fN0 | exact fN1 | exact fN2 | exact fN3 | exact fN4 | exact fN5) rfl ?_; refine QY rfl rfl rfl rfl rfl (by with_reducible first | exact lInt | exact Qd | exact Q8 | exact lRess) rfl ?_)
      refine Z9 (q := 1) rfl rfl (by with_reducible exact uInt) (by with_reducible exact uAddr) (by decide) rfl ?_
      refine Qt rfl (by with_reducible exact bAns) rfl (.one rfl rfl rfl rfl (.one rfl rfl rfl rfl .nil)) rfl ?_
      (refine QV rfl rfl rfl (by with_reducible first | exact fS0 | exact fS1 | exact fS2 | exact fS3 | exact fS4 | exact fS5 | exact fS6 | exact fS7 | exact fS8 | exact fS9 | exact fS10 | exact fS11 | exact fN0 | exact fN1 | exact fN2 | exact fN3 | exact fN4 | exact fN5) rfl ?_)
      refine Xc rfl rfl rfl rfl rfl (by with_reducible exact zBool1) (Nat.le_of_ble_eq_true rfl) ?_
      (refine QV rfl rfl rfl (by with_reducible first | exact fS0 | exact fS1 | exact fS2 | exact fS3 | exact fS4 | exact fS5 | exact fS6 | exact fS7 | exact fS8 | exact fS9 | exact fS10 | exact fS11 | exact fN0 | exact fN1 | exact fN2 | exact fN3 | exact fN4 | exact fN5) rfl ?_)
      refine Ops.stNA rfl rfl rfl rfl rfl (by exact szAns) (Nat.le_of_ble_eq_true rfl) ?_
      (refine Qj (hK _ _ (Qz ?_)); clear hK K; refine Qx (fun K hK => ?_); refine Qq rfl rfl rfl ?_; refine Q4 (n := 17) rfl rfl rfl rfl rfl (by with_reducible exact lRes) rfl ?_)
      refine X9 (n := 17) rfl rfl (by with_reducible exact sRes) rfl rfl (by decide) rfl ?_
      refine Qs 10 (rss (xF 5 0 (dA.take (10 + 1)))) rfl rfl rfl rfl (by with_reducible exact sRes) (by rw [Xb, hlen]) rfl (by omega) (by omega) (by rw [hx, xF_snoc, Zc, hlen2, HD, Int.zero_add]; rfl) rfl ?_
      (refine Qy rfl rfl rfl ?_; refine Qj (hK _ _ (Qz ?_)); clear hK K; refine Qx (fun K hK => ?_); refine Qq rfl rfl rfl ?_; refine Qk (iadd (by omega) (by omega)) rfl rfl rfl rfl ?_; refine Qy rfl rfl rfl ?_; refine Qj (hK _ _ (Q5 ?_)); clear hK K)
      refine Qr 1 ?_
      refine Q9 (10 + 1) (by omega) (by omega) (by exact QX rfl ⟨rfl, by simp only [Int.natCast_add]; rfl, trivial⟩)
    (refine Q1 (Qz (Qw (Qw (Qx fun K hK => ?_)))); refine Qq rfl rfl rfl ?_; refine Qk igtr rfl rfl rfl rfl ?_; refine Qj (hK _ _ (Qz ?_)); clear hK K)
    refine Q2 rfl (fun g2 => ?_) (fun g2 => ?_)
    · have HD := dA_mid i (by omega) (by omega)
      (refine Qx (fun K hK => ?_); refine QV rfl rfl rfl (by with_reducible first | exact fS0 | exact fS1 | exact fS2 | exact fS3 | exact fS4 | exact fS5 | exact fS6 | exact fS7 | exact fS8 | exact fS9 | exact fS10 | exact fS11 | exact fN0 | exact fN1 | exact fN2 | exact fN3 | exact fN4 | exact fN5) rfl ?_; refine QY rfl rfl rfl rfl rfl (by with_reducible first | exact lInt | exact Qd | exact Q8 | exact lRess) rfl ?_)
      refine Z9 (q := 2) rfl rfl (by with_reducible exact uInt) (by with_reducible exact uAddr) (by decide) rfl ?_
      refine Qt rfl (by with_reducible exact bAns) rfl (.one rfl rfl rfl rfl (.one rfl rfl rfl rfl .nil)) rfl ?_
      (refine QV rfl rfl rfl (by with_reducible first | exact fS0 | exact fS1 | exact fS2 | exact fS3 | exact fS4 | exact fS5 | exact fS6 | exact fS7 | exact fS8 | exact fS9 | exact fS10 | exact fS11 | exact fN0 | exact fN1 | exact fN2 | exact fN3 | exact fN4 | exact fN5) rfl ?_)
      refine Xc rfl rfl rfl rfl rfl (by with_reducible exact zBool1) (Nat.le_of_ble_eq_true rfl) ?_
      (refine QV rfl rfl rfl (by with_reducible first | exact fS0 | exact fS1 | exact fS2 | exact fS3 | exact fS4 | exact fS5 | exact fS6 | exact fS7 | exact fS8 | exact fS9 | exact fS10 | exact fS11 | exact fN0 | exact fN1 | exact fN2 | exact fN3 | exact fN4 | exact fN5) rfl ?_)
      refine Ops.stNA rfl rfl rfl rfl rfl (by exact szAns) (Nat.le_of_ble_eq_true rfl) ?_
      (refine Qj (hK _ _ (Qz ?_)); clear hK K; refine Qx (fun K hK => ?_); refine Qq rfl rfl rfl ?_; refine Q4 (n := 17) rfl rfl rfl rfl rfl (by with_reducible exact lRes) rfl ?_)
      refine X9 (n := 17) rfl rfl (by with_reducible exact sRes) rfl rfl (by decide) rfl ?_
      refine Qs i (rss (xF 5 0 (dA.take (i + 1)))) rfl rfl rfl rfl (by with_reducible exact sRes) (by rw [Xb, hlen]) rfl (by omega) (by omega) (by rw [hx, xF_snoc, Zc, hlen2, HD, Int.zero_add]; rfl) rfl ?_
      (refine Qy rfl rfl rfl ?_; refine Qj (hK _ _ (Qz ?_)); clear hK K; refine Qx (fun K hK => ?_); refine Qq rfl rfl rfl ?_; refine Qk (iadd (by omega) (by omega)) rfl rfl rfl rfl ?_; refine Qy rfl rfl rfl ?_; refine Qj (hK _ _ (Q5 ?_)); clear hK K)
      refine Qr 1 ?_
      refine Q9 (i + 1) (by omega) (by omega) (by exact QX rfl ⟨rfl, by simp only [Int.natCast_add]; rfl, trivial⟩)
    · have HD := dA_low i (by omega)
      (refine Q1 (Qz (Qx fun K hK => ?_)); refine Qq rfl rfl rfl ?_; refine Q4 (n := 17) rfl rfl rfl rfl rfl (by with_reducible exact lRes) rfl ?_)
      refine X9 (n := 17) rfl rfl (by with_reducible exact sRes) rfl rfl (by decide) rfl ?_
      refine Qs i (rss (xF 5 0 (dA.take (i + 1)))) rfl rfl rfl rfl (by with_reducible exact sRes) (by rw [Xb, hlen]) rfl (by omega) (by omega) (by rw [hx, xF_snoc, Zc, hlen2, HD, Int.zero_add]; rfl) rfl ?_
      (refine Qy rfl rfl rfl ?_; refine Qj (hK _ _ (Qz ?_)); clear hK K; refine Qx (fun K hK => ?_); refine Qq rfl rfl rfl ?_; refine Qk (iadd (by omega) (by omega)) rfl rfl rfl rfl ?_; refine Qy rfl rfl rfl ?_; refine Qj (hK _ _ (Q5 ?_)); clear hK K)
      refine Qr 1 ?_
      refine Q9 (i + 1) (by omega) (by omega) (by exact QX rfl ⟨rfl, by simp only [Int.natCast_add]; rfl, trivial⟩)
  · have hi' : i = 11 := by omega
    subst hi'
    rw [show List.take 11 dA = dA from rfl]
    (refine Xq (Qz (Qw (Qx fun K hK => ?_))); refine Qq rfl rfl rfl ?_)
    refine Xp 0 _ rfl (Zz _ _) X6 ?_
    refine Qt rfl (by with_reducible exact bWire) rfl (.one rfl rfl rfl rfl (.one rfl rfl rfl rfl .nil)) rfl ?_
    refine QK goCount hC rfl rfl rfl rfl ?_
    (refine Qq rfl rfl rfl ?_; refine Qf rfl rfl rfl rfl ?_; refine Qf rfl rfl rfl rfl ?_; refine Qh 0 rfl rfl (by with_reducible first | exact zvTrav | exact zvCn) rfl rfl rfl ?_; refine Qa 5 rfl rfl rfl rfl rfl (by with_reducible exact szCn) rfl rfl ?_; refine Qy rfl rfl rfl ?_; refine Qj (hK _ _ (Qz (Qw ?_))); clear hK K; refine Qx (fun K hK => ?_); refine Q4 (n := 5) rfl rfl rfl rfl rfl (by with_reducible exact lCn) rfl ?_)
    refine QK goRate hR rfl rfl rfl rfl ?_
    (refine Qq rfl rfl rfl ?_; refine Qf rfl rfl rfl rfl ?_; refine Qf rfl rfl rfl rfl ?_; refine Qf rfl rfl rfl rfl ?_)
    refine Qh 2 rfl rfl (by with_reducible exact zvFrac) rfl rfl rfl ?_
    refine Qh 3 rfl rfl (by with_reducible exact zvFrac) rfl rfl rfl ?_
    refine Qa 3 rfl rfl rfl rfl rfl (by with_reducible exact szFrac) rfl rfl ?_
    refine Qa 3 rfl rfl rfl rfl rfl (by with_reducible exact szFrac) rfl rfl ?_
    (refine Qy rfl rfl rfl ?_; refine Qj (hK _ _ (Qz (Qw ?_))); clear hK K; refine Qx (fun K hK => ?_))
    refine QK gorFrom hF rfl rfl rfl rfl ?_
    (refine Qq rfl rfl rfl ?_; refine Qf rfl rfl rfl rfl ?_; refine Qf rfl rfl rfl rfl ?_)
    refine Qh 4 rfl rfl (by with_reducible exact zvFrac) rfl rfl rfl ?_
    refine Qa 3 rfl rfl rfl rfl rfl (by with_reducible exact szFrac) rfl rfl ?_
    (refine Qy rfl rfl rfl ?_; refine Qj (hK _ _ (Qz (Qw ?_))); clear hK K; refine Qx (fun K hK => ?_); refine Qq rfl rfl rfl ?_; refine Qk ieql rfl rfl rfl rfl ?_; refine Qq rfl rfl rfl ?_; refine QV rfl rfl rfl (by with_reducible first | exact fTk0 | exact fTk1 | exact fTk2 | exact fWr0 | exact fWr1 | exact X1 | exact X0 | exact Xi | exact fStm1 | exact fCn0 | exact fCn1 | exact fCn2 | exact fCn3 | exact fCs0 | exact fCs1) rfl ?_; refine QY rfl rfl rfl rfl rfl (by with_reducible first | exact lInt | exact Qd | exact Q8 | exact lRess) rfl ?_; refine Qk ieql rfl rfl rfl rfl ?_; refine QZ rfl rfl rfl rfl ?_; refine Qq rfl rfl rfl ?_; refine QV rfl rfl rfl (by with_reducible first | exact fTk0 | exact fTk1 | exact fTk2 | exact fWr0 | exact fWr1 | exact X1 | exact X0 | exact Xi | exact fStm1 | exact fCn0 | exact fCn1 | exact fCn2 | exact fCn3 | exact fCs0 | exact fCs1) rfl ?_; refine QY rfl rfl rfl rfl rfl (by with_reducible first | exact lInt | exact Qd | exact Q8 | exact lRess) rfl ?_; refine Qk ieql rfl rfl rfl rfl ?_; refine QZ rfl rfl rfl rfl ?_; refine Qq rfl rfl rfl ?_; refine QV rfl rfl rfl (by with_reducible first | exact fTk0 | exact fTk1 | exact fTk2 | exact fWr0 | exact fWr1 | exact X1 | exact X0 | exact Xi | exact fStm1 | exact fCn0 | exact fCn1 | exact fCn2 | exact fCn3 | exact fCs0 | exact fCs1) rfl ?_; refine QY rfl rfl rfl rfl rfl (by with_reducible first | exact lInt | exact Qd | exact Q8 | exact lRess) rfl ?_; refine Qk ieql rfl rfl rfl rfl ?_; refine QZ rfl rfl rfl rfl ?_; refine Qq rfl rfl rfl ?_; refine Qq rfl rfl rfl ?_; refine Qk ieql rfl rfl rfl rfl ?_; refine QZ rfl rfl rfl rfl ?_; refine Qq rfl rfl rfl ?_)
    refine Q4 (n := 3) rfl rfl rfl rfl rfl (by with_reducible exact Zl) rfl ?_
    refine Q4 (n := 3) rfl rfl rfl rfl rfl (by with_reducible exact Zl) rfl ?_
    refine QK goEqual hE1 rfl rfl rfl rfl ?_
    (refine QZ rfl rfl rfl rfl ?_; refine Qq rfl rfl rfl ?_)
    refine Q4 (n := 3) rfl rfl rfl rfl rfl (by with_reducible exact Zl) rfl ?_
    refine Q4 (n := 3) rfl rfl rfl rfl rfl (by with_reducible exact Zl) rfl ?_
    refine QK goEqual hE2 rfl rfl rfl rfl ?_
    (refine Qm rfl rfl rfl ?_; refine QZ rfl rfl rfl rfl ?_; refine Qy rfl rfl rfl ?_; refine Qj (hK _ _ (Qz (Q0 ?_))); clear hK K)
    refine QU [_] rfl (Qu rfl QQ) rfl rfl
end Go.Proofs.YtlkdkbdgnjcopaaGreat
namespace Go.Proofs.YtlkdkbdgnjcopaaGreat
open Go.Own
attribute [local irreducible] St Ops Go.Own.Fin Ok OkB OkN OkT OkL OkF wpR
theorem goShuffled : InGo Tryz.prog 35 := InGo.of Tryz.func35 rfl (by decide)
set_option maxHeartbeats 8000000 in
theorem Shuffled_ok (bs : List Int) (p : Nat) (l : List Rs) (hl : l.length ≤ 100) (hb : Bytes bs) : OkB Tryz.prog 35 78 (codes bs p) [rssC l] (fun q : List Rs × Nat => q.1.length ≤ 2 * l.length ∧ ∀ r, r ∈ q.1 ↔ r ∈ l) (fun q => rssC q.1) (fun q => codes bs q.2) := by
  refine OkB.enter Tryz.func35 rfl _ Tryz.ntmps35 rfl ?_
  intro S w g
  (refine Qw (Qx fun K hK => ?_); refine Qy rfl rfl rfl ?_; refine Qj (hK _ _ (Qz (Qw ?_))); clear hK K; refine Qx (fun K hK => ?_); refine Qy rfl rfl rfl ?_; refine Qj (hK _ _ (Qz (Qw (Qw ?_)))); clear hK K; refine Qx (fun K hK => ?_); refine Qy rfl rfl rfl ?_; refine Qj (hK _ _ (Qz (Q7 ?_))); clear hK K)
  refine Zq 5 1 35 17 rfl rfl rfl ?_
  refine Xy (α := Int × List Rs × Nat) (fun x => 0 ≤ x.1 ∧ x.1 ≤ l.length ∧ (x.2.1.length : Int) ≤ 2 * x.1 ∧ ∀ r, r ∈ x.2.1 ↔ r ∈ l.take x.1.toNat)
    (fun x => [(0, .own 0), (1, .ct (rssC l)), (5, .own 1), (6, .ct (intC x.1))]) (fun x => [(1, .row 35 17 (rss x.2.1)), (0, .box 78 (codes bs x.2.2))]) (fun x => (l.length - x.1).toNat) (0, [], p) ⟨by dsimp only; omega, by dsimp only; omega, by simp, by simp⟩ (by exact QX rfl ⟨rfl, rfl, rfl, rfl, trivial⟩) ?_
  rintro ⟨i, out, p1⟩ ⟨hi0, hi1, ho, hmem⟩
  dsimp only at hi0 hi1 ho hmem ⊢
  (refine Qw (Qw (Qx fun K hK => ?_)); refine Qq rfl rfl rfl ?_; refine Qq rfl rfl rfl ?_; refine Qc rfl rfl (by with_reducible exact sRes.und) (List.length_map ..) rfl ?_; refine Qk ilss rfl rfl rfl rfl ?_; refine Qj (hK _ _ (Qz ?_)); clear hK K)
  refine Q2 rfl (fun hk => ?_) (fun hk => ?_)
  · (refine Q1 (Qz (Qw (Q7 (Qw (Qx fun K hK => ?_))))); refine Qq rfl rfl rfl ?_; refine Qq rfl rfl rfl ?_)
    refine Ops.lenR out.length rfl rfl rfl (by decide) (Xb out) (by with_reducible exact sRes.und) rfl ?_
    (refine Qk (iadd (by omega) (by omega)) rfl rfl rfl rfl ?_)
    refine Xw goNext (Za bs p1 (out.length + 1) (by omega) (by omega) hb) rfl rfl rfl rfl rfl (fun q hq => ?_)
    obtain ⟨kk, p2⟩ := q
    dsimp only at hq ⊢
    obtain ⟨k, rfl⟩ : ∃ k : Nat, kk = (k : Int) := ⟨kk.toNat, by omega⟩
    have hk2 : k ≤ out.length := by omega
    have e3 : ((k : Int) + 1).toNat = k + 1 := by omega
    have e4 : (k : Int).toNat = k := by omega
    generalize hl2' : (out ++ [rs0]).take (k + 1) ++ ((out ++ [rs0]).drop k).take (out.length + 1 - (k + 1)) ++ (out ++ [rs0]).drop (k + 1 + (((out ++ [rs0]).drop k).take (out.length + 1 - (k + 1))).length) = l2
    have hl3 : l2.set k rs0 = out.take k ++ rs0 :: out.drop k := by rw [← hl2']; exact shift_eqA out rs0 hk2
    have hlen3 : l2.length = out.length + 1 := by
      have := congrArg List.length hl3
      simp at this
      omega
    have hl2 : rss l2 = spl (rss (out ++ [rs0])) (((k : Int) + 1).toNat * 17) (((rss (out ++ [rs0])).drop ((k : Int).toNat * 17)).take (min (out.length + 1 - (k : Int).toNat) (out.length + 1 - ((k : Int) + 1).toNat) * 17)) := by
      rw [e3, e4, show min (out.length + 1 - k) (out.length + 1 - (k + 1)) = out.length + 1 - (k + 1) by omega, rss_drop, rss_take, rss_spl, ← hl2']
    have hset : ∀ c : Rs, l2.set k c = out.take k ++ c :: out.drop k := fun c => by
      have e : l2.set k c = (l2.set k rs0).set k c := by rw [List.set_set]
      rw [e, hl3, List.set_append_right _ _ (by rw [List.length_take]; omega), List.length_take, show k - min k out.length = 0 by omega]; rfl
    have hin : ∀ c r : Rs, r ∈ l2.set k c ↔ r = c ∨ r ∈ out := fun c r => by
      rw [hset c, List.mem_append, List.mem_cons]
      conv => rhs; rw [← List.take_append_drop k out, List.mem_append]
      exact ⟨fun h => h.elim (fun h => .inr (.inl h)) (fun h => h.elim .inl (fun h => .inr (.inr h))), fun h => h.elim (fun h => .inr (.inl h)) (fun h => h.elim .inl (fun h => .inr (.inr h)))⟩
    have htk : ∀ r, r ∈ l.take (i.toNat + 1) ↔ r ∈ l.take i.toNat ∨ r = l.getD i.toNat rs0 := fun r => by
      rw [List.take_add_one, List.mem_append, List.getElem?_eq_getElem (by omega), List.getD_eq_getElem?_getD, List.getElem?_eq_getElem (by omega)]
      simp
    have hi9 : (i + 1).toNat = i.toNat + 1 := by omega
    clear hset hl3 hl2'
    (refine Qy rfl rfl rfl ?_; refine Qj (hK _ _ (Qz (Qw ?_))); clear hK K; refine Qx (fun K hK => ?_); refine Qq rfl rfl rfl ?_)
    refine Qt rfl (by with_reducible exact bRes) rfl .nil rfl ?_
    refine X9 (n := 17) rfl rfl (by with_reducible exact sRes) rfl rfl (by decide) rfl ?_
    refine Qs out.length (rss (out ++ [rs0])) rfl rfl rfl rfl (by with_reducible exact sRes) (Xb out) rfl (by omega) (by omega) (Zc out rs0) rfl ?_
    (refine Qy rfl rfl rfl ?_; refine Qj (hK _ _ (Qz (Qw ?_))); clear hK K)
    refine XY (by with_reducible exact mixed) 7 (.p 0 (.p 1 (.p 2 (.p 4 (.p 5 (.p 3 (.p 6 (.a 7 .done)))))))) (by kernel_rfl) (fun K hK => ?_)
    (refine Qq rfl rfl rfl ?_; refine Qq rfl rfl rfl ?_; refine Qk (iadd (by omega) (by omega)) rfl rfl rfl rfl ?_; refine Qq rfl rfl rfl ?_; refine Qq rfl rfl rfl ?_)
    refine Ops.copyIn (out.length + 1) (rss l2) rfl rfl rfl rfl rfl (by with_reducible exact sRes) (by rw [Xb]; simp) (by omega) (by omega) (by omega) (by omega) (by omega) (rss_ones _) rfl hl2 rfl rfl rfl ?_
    clear hl2
    (refine Qj (hK _ _ (Qz (Qw ?_))); clear hK K; refine Qx (fun K hK => ?_); refine Qq rfl rfl rfl ?_; refine Qq rfl rfl rfl ?_; refine Qq rfl rfl rfl ?_; refine Qq rfl rfl rfl ?_; refine Qo rfl rfl rfl (by with_reducible exact sRes) (by omega) (ZU (by omega) (by omega)) rfl ?_; refine XU (n := 17) rfl rfl rfl (by with_reducible exact lRes) rfl rfl ?_)
    have hin2 := hin (l.getD i.toNat rs0)
    generalize hcc : l.getD i.toNat rs0 = c at hin2 ⊢
    refine ZZ (out.length + 1) rfl rfl rfl (by rw [Xb, hlen3]) rfl (by with_reducible exact sRes) (by omega) (by omega) rfl ?_
    refine stE rsCs c rs_len rfl rfl rfl rfl rfl (by rw [e4]; omega) (by with_reducible exact Yz) ?_
    rw [e4]
    (refine Qj (hK _ _ (Qz (Qw ?_))); clear hK K; refine Qx (fun K hK => ?_); refine Qq rfl rfl rfl ?_)
    have hlen4 : (l2.set k c).length = out.length + 1 := by rw [List.length_set]; exact hlen3
    generalize l2.set k c = l4 at hlen4 hin2
    rw [hcc] at htk
    refine Xw goBool (YX bs p2 8 (by decide) (by decide) hb) rfl rfl rfl rfl rfl (fun q _ => ?_)
    obtain ⟨b, p3⟩ := q
    dsimp only
    (refine Qj (hK _ _ (Qz ?_)); clear hK K)
    refine XQ rfl (fun _ => ?_) (fun _ => ?_)
    · (refine Qx (fun K hK => ?_); refine Qq rfl rfl rfl ?_; refine Qq rfl rfl rfl ?_; refine Qq rfl rfl rfl ?_; refine Qo rfl rfl rfl (by with_reducible exact sRes) (by omega) (ZU (by omega) (by omega)) rfl ?_; refine XU (n := 17) rfl rfl rfl (by with_reducible exact lRes) rfl rfl ?_)
      rw [hcc]
      refine X9 (n := 17) rfl rfl (by with_reducible exact sRes) rfl rfl (by decide) rfl ?_
      refine Qs l4.length (rss (l4 ++ [c])) rfl rfl rfl rfl (by with_reducible exact sRes) (Xb l4) rfl (by omega) (by omega) (Zc l4 c) rfl ?_
      (refine Qy rfl rfl rfl ?_; refine Qj (hK _ _ (Qz ?_)); clear hK K; refine Qx (fun K hK => ?_); refine Qq rfl rfl rfl ?_; refine Qk (iadd (by omega) (by omega)) rfl rfl rfl rfl ?_; refine Qy rfl rfl rfl ?_; refine Qj (hK _ _ (Q5 ?_)); clear hK K)
      refine Q9 (i + 1, l4 ++ [c], p3) (by dsimp only; omega) ⟨by dsimp only; omega, by dsimp only; omega, by simp; omega, fun r => by dsimp only; rw [hi9, htk, List.mem_append, hin2, hmem, List.mem_singleton]; exact ⟨fun h => h.elim (fun h => h.elim .inr .inl) .inr, fun h => h.elim (fun h => .inl (.inr h)) .inr⟩⟩ (by exact QX rfl ⟨rfl, rfl, rfl, rfl, trivial⟩)
    · (refine Q1 (Qz (Qx fun K hK => ?_)); refine Qq rfl rfl rfl ?_; refine Qk (iadd (by omega) (by omega)) rfl rfl rfl rfl ?_; refine Qy rfl rfl rfl ?_; refine Qj (hK _ _ (Q5 ?_)); clear hK K)
      refine Q9 (i + 1, l4, p3) (by dsimp only; omega) ⟨by dsimp only; omega, by dsimp only; omega, by dsimp only; omega, fun r => by dsimp only; rw [hi9, htk, hin2, hmem]; exact Or.comm⟩ (by exact QX rfl ⟨rfl, rfl, rfl, rfl, trivial⟩)
  · refine St.frz 1 _ rfl (Zz _ _) (Zr rfl) ?_
    (refine Xq (Qz (Qw (Qx fun K hK => ?_))); refine Qq rfl rfl rfl ?_; refine Qy rfl rfl rfl ?_; refine Qj (hK _ _ (Qz (Q0 ?_))); clear hK K)
    refine Zp (out, p1) [_] rfl (Qu rfl QQ) rfl rfl ⟨by dsimp only; omega, fun r => by dsimp only; rw [hmem, List.take_of_length_le (by omega)]⟩
end Go.Proofs.YtlkdkbdgnjcopaaGreat
namespace Go.Proofs.YtlkdkbdgnjcopaaGreat
open Go.Own Go.Limbs
attribute [local irreducible] St Ops Go.Own.Fin Ok OkB OkN OkT OkL OkF OkM
set_option maxHeartbeats 16000000 in
theorem LossHolds_ok (bs : List Int) (bud : Int) (hb : ∀ b ∈ bs, 0 ≤ b ∧ b < 256) (hbu : 0 ≤ bud ∧ bud < 256) : Ok Tryz.prog 7 [bytesC bs, .ex (.int .u8 bud)] (boolC true) := by
  refine Ok.enter Tryz.func7 rfl _ Tryz.ntmps7 rfl ?_
  intro S w
  have hB : Bytes (bs.take 400) := ⟨fun b h => (hb b (List.mem_of_mem_take h)).1, fun b h => (hb b (List.mem_of_mem_take h)).2, by simp; omega⟩
  have hRoll := Roll_ok bs
  generalize bs.take 400 = B0 at hB hRoll
  have hcv : IntKind.i64.wrap bud = bud := wrap64_small (by omega) (by omega)
  (refine Qw (Qx fun K hK => ?_); refine Qy rfl rfl rfl ?_; refine Qj (hK _ _ (Qz (Qw (Qw ?_)))); clear hK K; refine Qx (fun K hK => ?_))
  refine QK goawake awake_ok rfl rfl rfl rfl ?_
  (refine Qm rfl rfl rfl ?_; refine Qj (hK _ _ (Qz (Xv rfl (Q1 (Qz (Qw ?_)))))); clear hK K; refine Qx (fun K hK => ?_); refine Qq rfl rfl rfl ?_)
  refine Ops.callN 0 goRoll hRoll rfl rfl rfl rfl rfl rfl ?_
  (refine Qy rfl rfl rfl ?_; refine Qj (hK _ _ (Qz (Qw ?_))); clear hK K; refine Qx (fun K hK => ?_); refine Qq rfl rfl rfl ?_)
  refine Xw goDConsistent (DConsistent_ok B0 0 24 (by decide) (by decide) hB) rfl rfl rfl rfl rfl (fun q hx => ?_)
  obtain ⟨x, p1⟩ := q
  dsimp only at hx ⊢
  obtain ⟨hxl, hpw, hok, hun⟩ := hx
  have hchk := chk_fine hok hpw (by omega)
  have hA := All_ok x (by omega) bud
  have hX := fun w => Crosses_ok x (by omega) w
  have hH := fun c s t hs ht => Holds_ok x (by omega) bud c s t hs ht
  have h2 := alO_snd (n := bud) hchk ⟨by omega, by omega⟩
  have hcn := fun c (h : c ∈ (alO x bud).1) => cnOf_ok (n := bud) hchk ⟨by omega, by omega⟩ h
  have hho := fun c (h : c ∈ (alO x bud).1) => holds_true (n := bud) hchk ⟨by omega, by omega⟩ hun (hcn c h)
  have hA2 : ∀ y : List Rs, y.length ≤ 10000 → (∀ r, r ∈ y ↔ r ∈ x) → Ok Tryz.prog 17 [rssC y, intC bud] (.fr (tupT [cnsC (alO x bud).1, intC (alO x bud).2])) := fun y hy hm => by
    have h := All_ok y hy bud
    rw [same_al hm bud] at h
    exact h
  have hll := alO_len x bud
  have hll : (alO x bud).1.length ≤ 10000 := by omega
  generalize alO x bud = al at hA h2 hcn hll hho hA2
  obtain ⟨cl, e0⟩ := al
  dsimp only at h2 hcn hA hll hho hA2
  subst h2
  have hSm : Ok Tryz.prog 26 [cnsC cl, cnsC cl] (boolC true) := by
    have h := rSame_ok cl cl (by omega)
    rw [decide_eq_true rfl] at h
    exact h
  (refine Qy rfl rfl rfl ?_; refine Qj (hK _ _ (Qz (Qw ?_))); clear hK K; refine Qx (fun K hK => ?_); refine Qq rfl rfl rfl ?_; refine Qq rfl rfl rfl ?_)
  refine Z9 (q := bud) rfl rfl (by with_reducible exact uU8) (by with_reducible exact uInt) hcv rfl ?_
  refine QK goAll hA rfl rfl rfl rfl ?_
  (refine Qq rfl rfl rfl ?_; refine Qf rfl rfl rfl rfl ?_; refine Qf rfl rfl rfl rfl ?_; refine Qy rfl rfl rfl ?_; refine Qy rfl rfl rfl ?_; refine Qj (hK _ _ (Qz (Qw ?_))); clear hK K; refine Qx (fun K hK => ?_); refine Qq rfl rfl rfl ?_; refine Qq rfl rfl rfl ?_)
  refine Xw goShuffled (Shuffled_ok B0 p1 x (by omega) hB) rfl rfl rfl rfl rfl (fun q hy => ?_)
  obtain ⟨y, p2⟩ := q
  dsimp only at hy ⊢
  have hA2 := hA2 y (by omega) hy.2
  (refine Qq rfl rfl rfl ?_)
  refine Z9 (q := bud) rfl rfl (by with_reducible exact uU8) (by with_reducible exact uInt) hcv rfl ?_
  refine QK goAll hA2 rfl rfl rfl rfl ?_
  (refine Qq rfl rfl rfl ?_; refine Qf rfl rfl rfl rfl ?_; refine Qf rfl rfl rfl rfl ?_; refine Qy rfl rfl rfl ?_; refine Qy rfl rfl rfl ?_; refine Qj (hK _ _ (Qz (Qw (Qw ?_)))); clear hK K; refine Qx (fun K hK => ?_); refine Qq rfl rfl rfl ?_; refine Qk ineq rfl rfl rfl rfl ?_; refine Qq rfl rfl rfl ?_; refine Qq rfl rfl rfl ?_; refine Qk ineq rfl rfl rfl rfl ?_; refine QW rfl rfl rfl rfl ?_; refine Qq rfl rfl rfl ?_; refine Qq rfl rfl rfl ?_; refine Qq rfl rfl rfl ?_)
  refine QK gorSame hSm rfl rfl rfl rfl ?_
  (refine Qm rfl rfl rfl ?_; refine QW rfl rfl rfl rfl ?_; refine Qj (hK _ _ (Qz (Xv rfl (Q1 (Qz (Qw (Qw ?_))))))); clear hK K; refine Qx (fun K hK => ?_); refine Qq rfl rfl rfl ?_)
  refine Qc rfl rfl (by with_reducible exact sCns.und) (List.length_map ..) rfl ?_
  (refine Qq rfl rfl rfl ?_; refine Qj (hK _ _ (Qz (Q7 ?_))); clear hK K)
  refine Xy (α := Nat) (fun i => i ≤ cl.length) (fun i => [(1, .ct (.ex (.int .u8 bud))), (6, .ct (rssC x)), (50, .ct (cnsC cl)), (51, .ct (intC cl.length)), (52, .ct (intC i))])
    (fun _ => [(0, .box 78 (codes B0 p2))]) (fun i => cl.length - i) 0 (Nat.zero_le _) (by exact QX rfl ⟨rfl, rfl, rfl, rfl, rfl, trivial⟩) ?_
  intro i hi
  try dsimp only at hi ⊢
  (refine Qw (Qx fun K hK => ?_); refine Qk ilss rfl rfl rfl rfl ?_; refine Qj (hK _ _ (Qz (Qw ?_))); clear hK K)
  refine Q2 rfl (fun h => ?_) (fun h => ?_)
  rotate_left
  · (refine Xq (Qz (Qw (Qx fun K hK => ?_))); refine Qy rfl rfl rfl ?_; refine Qj (hK _ _ (Qz (Q0 ?_))); clear hK K)
    refine QU [_] rfl (Qu rfl QQ) rfl rfl
  have e2 : (i : Int).toNat = i := Int.toNat_natCast i
  have hmem : cl.getD i cn0 ∈ cl := by rw [List.getD_eq_getElem?_getD, List.getElem?_eq_getElem (by omega)]; exact List.getElem_mem _
  have hc := hcn _ hmem
  have hc2 := hho _ hmem
  (refine Q1 (Qz (Qw (Q7 (Qw (Qx fun K hK => ?_))))))
  refine Qo rfl rfl rfl (by with_reducible exact sCns) (by omega) (cns_at (by omega) (by omega)) rfl ?_
  rw [e2]
  generalize cl.getD i cn0 = c at hc hc2
  obtain ⟨wr, se, lo, hi'⟩ := c
  obtain ⟨⟨s1, s2⟩, ⟨g1, g2⟩, g3, _, g5, g6⟩ := hc
  dsimp only at s1 s2 g1 g2 g3 g5 g6 hc2
  clear hcn hho
  have hX := hX wr
  rw [g5] at hX
  have hH := hH ⟨wr, se, lo, hi'⟩ ((crsF x wr true).map idOf) ((crsF x wr false).map idOf) (by rw [List.length_map]; omega) (by rw [List.length_map]; omega)
  rw [hc2] at hH
  clear g5 hc2
  have g7 : (((crsF x wr true).map idOf).length : Int) + ((crsF x wr false).map idOf).length = se ∧ (((crsF x wr false).map idOf).length : Int) = hi' := by rw [List.length_map, List.length_map]; exact g6
  clear g6
  generalize (crsF x wr true).map idOf = q1 at hX hH g7
  generalize (crsF x wr false).map idOf = q2 at hX hH g7
  dsimp only at hX
  refine XU (n := 5) rfl rfl rfl (by with_reducible exact lCn) rfl rfl ?_
  refine Qh 2 rfl rfl (by with_reducible exact zvCn) rfl rfl rfl ?_
  refine Qa 5 rfl rfl rfl rfl rfl (by with_reducible exact szCn) rfl rfl ?_
  (refine Qj (hK _ _ (Qz (Qw ?_))); clear hK K; refine Qx (fun K hK => ?_); refine Qq rfl rfl rfl ?_; refine QV rfl rfl rfl (by with_reducible first | exact fTk0 | exact fTk1 | exact fTk2 | exact fWr0 | exact fWr1 | exact X1 | exact X0 | exact Xi | exact fStm1 | exact fCn0 | exact fCn1 | exact fCn2 | exact fCn3 | exact fCs0 | exact fCs1) rfl ?_)
  refine Ops.ldNA (n := 2) rfl rfl rfl rfl (Nat.le_of_ble_eq_true rfl) (by with_reducible exact ZK) rfl ?_
  refine QK goCrosses hX rfl rfl rfl rfl ?_
  (refine Qq rfl rfl rfl ?_; refine Qf rfl rfl rfl rfl ?_; refine Qf rfl rfl rfl rfl ?_; refine Qf rfl rfl rfl rfl ?_; refine Qy rfl rfl rfl ?_; refine Qy rfl rfl rfl ?_; refine Qy rfl rfl rfl ?_; refine Qj (hK _ _ (Qz (Qw ?_))); clear hK K; refine Qx (fun K hK => ?_); refine Qq rfl rfl rfl ?_; refine Qk ineq rfl rfl rfl rfl ?_; refine Qq rfl rfl rfl ?_; refine Qq rfl rfl rfl ?_; refine Qq rfl rfl rfl ?_)
  refine Z9 (q := bud) rfl rfl (by with_reducible exact uU8) (by with_reducible exact uInt) hcv rfl ?_
  (refine Q4 (n := 5) rfl rfl rfl rfl rfl (by with_reducible exact lCn) rfl ?_; refine Qq rfl rfl rfl ?_; refine Qq rfl rfl rfl ?_)
  refine QK goHolds hH rfl rfl rfl rfl ?_
  (refine Qm rfl rfl rfl ?_; refine QW rfl rfl rfl rfl ?_; refine Qq rfl rfl rfl ?_; refine QV rfl rfl rfl (by with_reducible first | exact fTk0 | exact fTk1 | exact fTk2 | exact fWr0 | exact fWr1 | exact X1 | exact X0 | exact Xi | exact fStm1 | exact fCn0 | exact fCn1 | exact fCn2 | exact fCn3 | exact fCs0 | exact fCs1) rfl ?_; refine QY rfl rfl rfl rfl rfl (by with_reducible first | exact lInt | exact Qd | exact Q8 | exact lRess) rfl ?_; refine Qq rfl rfl rfl ?_; refine Qc rfl rfl (by with_reducible first | exact sTks.und | exact sWrs.und | exact sIks.und | exact sAdrs.und) (List.length_map ..) rfl ?_; refine Qq rfl rfl rfl ?_; refine Qc rfl rfl (by with_reducible first | exact sTks.und | exact sWrs.und | exact sIks.und | exact sAdrs.und) (List.length_map ..) rfl ?_; refine Qk (iadd (by omega) (by omega)) rfl rfl rfl rfl ?_; refine Qk ineq rfl rfl rfl rfl ?_; refine QW rfl rfl rfl rfl ?_; refine Qq rfl rfl rfl ?_)
  refine Q6 86 rfl (fun g => absurd g (by show ¬ (se ≠ (q1.length : Int) + (q2.length : Int)); omega)) (fun _ => ?_)
  (refine QV rfl rfl rfl (by with_reducible first | exact fTk0 | exact fTk1 | exact fTk2 | exact fWr0 | exact fWr1 | exact X1 | exact X0 | exact Xi | exact fStm1 | exact fCn0 | exact fCn1 | exact fCn2 | exact fCn3 | exact fCs0 | exact fCs1) rfl ?_; refine QY rfl rfl rfl rfl rfl (by with_reducible first | exact lInt | exact Qd | exact Q8 | exact lRess) rfl ?_; refine Qq rfl rfl rfl ?_; refine Qc rfl rfl (by with_reducible first | exact sTks.und | exact sWrs.und | exact sIks.und | exact sAdrs.und) (List.length_map ..) rfl ?_; refine Qk ineq rfl rfl rfl rfl ?_; refine QW rfl rfl rfl rfl ?_; refine Qq rfl rfl rfl ?_)
  refine Q6 93 rfl (fun g => absurd g (by show ¬ (hi' ≠ (q2.length : Int)); omega)) (fun _ => ?_)
  (refine QV rfl rfl rfl (by with_reducible first | exact fTk0 | exact fTk1 | exact fTk2 | exact fWr0 | exact fWr1 | exact X1 | exact X0 | exact Xi | exact fStm1 | exact fCn0 | exact fCn1 | exact fCn2 | exact fCn3 | exact fCs0 | exact fCs1) rfl ?_; refine QY rfl rfl rfl rfl rfl (by with_reducible first | exact lInt | exact Qd | exact Q8 | exact lRess) rfl ?_; refine QV rfl rfl rfl (by with_reducible first | exact fTk0 | exact fTk1 | exact fTk2 | exact fWr0 | exact fWr1 | exact X1 | exact X0 | exact Xi | exact fStm1 | exact fCn0 | exact fCn1 | exact fCn2 | exact fCn3 | exact fCs0 | exact fCs1) rfl ?_; refine QY rfl rfl rfl rfl rfl (by with_reducible first | exact lInt | exact Qd | exact Q8 | exact lRess) rfl ?_; refine Qk igtr rfl rfl rfl rfl ?_; refine QW rfl rfl rfl rfl ?_; refine Qq rfl rfl rfl ?_)
  refine Q6 100 rfl (fun g => absurd g (by show ¬ (hi' < lo); omega)) (fun _ => ?_)
  (refine QV rfl rfl rfl (by with_reducible first | exact fTk0 | exact fTk1 | exact fTk2 | exact fWr0 | exact fWr1 | exact X1 | exact X0 | exact Xi | exact fStm1 | exact fCn0 | exact fCn1 | exact fCn2 | exact fCn3 | exact fCs0 | exact fCs1) rfl ?_; refine QY rfl rfl rfl rfl rfl (by with_reducible first | exact lInt | exact Qd | exact Q8 | exact lRess) rfl ?_; refine Qk ilss rfl rfl rfl rfl ?_; refine QW rfl rfl rfl rfl ?_; refine Qj (hK _ _ (Qz ?_)); clear hK K)
  refine Q2 rfl (fun g => absurd g (by show ¬ (lo < 0); omega)) (fun _ => ?_)
  (refine Q1 (Qz (Qx fun K hK => ?_)); refine Qk (iadd (by omega) (by omega)) rfl rfl rfl rfl ?_; refine Qq rfl rfl rfl ?_; refine Qj (hK _ _ (Q5 ?_)); clear hK K)
  refine Qr 2 ?_
  refine Q9 (i + 1) (by omega) (by omega) (by exact QX rfl ⟨rfl, rfl, rfl, rfl, by simp only [Int.natCast_add]; rfl, trivial⟩)
end Go.Proofs.YtlkdkbdgnjcopaaGreat
namespace Go.Proofs.YtlkdkbdgnjcopaaGreat
open Go.Own Go.Limbs
section
variable {H : Type} {enc : TypeId × Value → H} {P : Program} {w : World} {base : Nat} {spare : Nat → Bool} {held : Bool}
theorem slice_in {α : Type} {t e : TypeId} {n fuel : Nat} {cs0 : List Value} {x : DataW H × List MemPlace} (ht : P.underlying t = some (.slice e)) (hn : P.cellsOf e = n) (hn0 : 0 < n) (f : α → List CT) (hf : ∀ z, (f z).length = n) (good : α → Prop)
    (hE : ∀ m cs y, DataW.trod enc P w base spare held m e cs = some y → cs.length = n → ∃ z, cells (fun _ => True) w (f z) cs ∧ good z)
    (h : DataW.trod enc P w base spare held fuel t cs0 = some x) : ∃ (v : Value) (zs : List α), cs0 = [v] ∧ zs.length ≤ 9223372036854775807 ∧ (∀ z ∈ zs, good z) ∧ (CT.fr (sliceT n (zs.map f))).p (fun _ => True) w v := by
  rcases DataW.trod_slice ht h with ⟨h0, _⟩ | ⟨a, len, cap, elems, rest, m, _, rfl, rfl, _, hl, hm, hlen, hel, _⟩
  · exact ⟨_, [], h0, Nat.zero_le _, (fun z hz => nomatch hz), nil_is n _ w⟩
  rw [hn] at hel
  have key : ∀ k, k ≤ len → ∃ (zs : List α) (vs : List Value), zs.length = k ∧ (∀ z ∈ zs, good z) ∧ cells (fun _ => True) w (zs.map f).flatten vs ∧ vs.length = k * n ∧ ∀ i u, vs[i]? = some u → w.cell? (a.add i) = some u := by
    intro k
    induction k with
    | zero => intro _; exact ⟨[], [], rfl, (fun z hz => nomatch hz), trivial, (Nat.zero_mul n).symm, fun i u hu => by simp at hu⟩
    | succ k ih =>
      intro hk
      obtain ⟨zs, vs, e1, e2, e3, e4, e5⟩ := ih (by omega)
      have h1 := hel k (by omega)
      rw [List.getElem?_eq_getElem (show k < elems.length by omega), Option.bind_eq_some_iff] at h1
      obtain ⟨cs, h2, h3⟩ := h1
      obtain ⟨_, h4, h5⟩ := World.cells?_some h2
      obtain ⟨z, h6, h7⟩ := hE _ _ _ h3 h4
      refine ⟨zs ++ [z], vs ++ cs, by simp [e1], ?_, ?_, by rw [List.length_append, e4, h4, Nat.succ_mul], ?_⟩
      · intro y hy
        rcases List.mem_append.1 hy with hy | hy
        · exact e2 y hy
        · rw [List.mem_singleton.1 hy]; exact h7
      · rw [List.map_append, List.flatten_append]
        refine cells.append e3 ?_
        simpa using h6
      · intro i u hu
        rcases Nat.lt_or_ge i (k * n) with hi | hi
        · rw [List.getElem?_append_left (by omega)] at hu
          exact e5 i u hu
        · rw [List.getElem?_append_right (by omega), e4] at hu
          have hlt : i - k * n < n := by
            have := (List.getElem?_eq_some_iff.1 hu).1
            omega
          have := h5 (i - k * n) hlt
          rw [Addr.add_add, show k * n + (i - k * n) = i by omega] at this
          rw [this, hu]
  obtain ⟨zs, vs, e1, e2, e3, e4, e5⟩ := key len (Nat.le_refl _)
  have hmx : maxLen = 9223372036854775807 := by decide
  refine ⟨_, zs, rfl, by omega, e2, some a, cap, by rw [List.length_map, e1], by rw [List.length_map, e1]; exact hl, hm, fun y hy => by obtain ⟨z, _, rfl⟩ := List.mem_map.1 hy; exact hf z, fun hne => ?_⟩
  have hpos : 0 < len := by
    rcases Nat.eq_zero_or_pos len with h0 | h0
    · rw [h0] at e1; rw [List.length_eq_zero_iff.1 e1] at hne; exact absurd rfl hne
    · exact h0
  have hvl : 0 < vs.length := by rw [e4]; exact Nat.mul_pos hpos hn0
  have h0 := e5 0 _ (List.getElem?_eq_getElem hvl)
  obtain ⟨b, o, sp⟩ := a
  have hsp : sp = none ∧ b < w.heap.size := by
    simp only [Addr.add, if_true, World.cell?] at h0
    cases e : w.heap[b]? with
    | none => rw [e] at h0; cases h0
    | some ob =>
      rw [e] at h0
      cases ob with
      | cells c t r =>
        refine ⟨?_, ZQ e⟩
        cases sp with
        | none => rfl
        | some q => simp at h0
      | _ => cases h0
  obtain ⟨rfl, hb⟩ := hsp
  refine ⟨b, o, rfl, trivial, hb, vs, e3, fun i u hu => ?_⟩
  have h1 := e5 i u hu
  have h3 : (⟨b, o, none⟩ : Addr).add i = ⟨b, o + i, none⟩ := by
    unfold Addr.add
    split
    · rename_i h; subst h; rfl
    · rfl
  rw [h3] at h1
  exact h1
theorem bytes_in {t e : TypeId} {fuel : Nat} {cs0 : List Value} {x : DataW H × List MemPlace} (ht : P.underlying t = some (.slice e)) (he : P.underlying e = some (.int .u8)) (hn : P.cellsOf e = 1)
    (h : DataW.trod enc P w base spare held fuel t cs0 = some x) : ∃ (v : Value) (zs : List Int), cs0 = [v] ∧ (∀ z ∈ zs, 0 ≤ z ∧ z < 256) ∧ (bytesC zs).p (fun _ => True) w v := by
  obtain ⟨v, zs, h1, _, h2, h3⟩ := slice_in ht hn (by decide) (fun z : Int => [CT.ex (Value.int .u8 z)]) (fun _ => rfl) (fun z => 0 ≤ z ∧ z < 256) (fun m cs y hy _ => by
    obtain ⟨z, rfl, _, hw⟩ := DataW.trod_int he hy
    exact ⟨z, ⟨rfl, trivial⟩, by have := bounds_u8 hw; omega⟩) h
  exact ⟨v, zs, h1, h2, h3⟩
end
end Go.Proofs.YtlkdkbdgnjcopaaGreat
namespace Go.Proofs.YtlkdkbdgnjcopaaGreat.lossHolds
open Go.ChangeShapes Go.WideShapes Go.ChangeAt Go.RowKit
open Go.ChangeMaps (open_string shut_string)
set_option linter.unusedVariables false
theorem byte_range {a : Int} (h : (Lit.int .u8 a).wf = true) : 0 ≤ a ∧ a < 256 := by
  simp only [Lit.wf, Bool.and_eq_true, decide_eq_true_eq] at h
  exact ⟨h.1, by have := h.2; rw [show IntKind.u8.max = 255 from rfl] at this; omega⟩
theorem own : ownKnob Tryz.prog.godebug = none := by kernel_rfl
theorem laidOut : laidOutB Tryz.prog = true := by kernel_rfl
set_option maxRecDepth 100000 in
theorem lifted (os : Os) (started : os.Started) (H : Type) (enc : TypeId × Value → H) :
    ReturnsInHanded {} Tryz.checked os 7 .any (Rows.lossHoldsSpec.pre6 enc Tryz.prog Tryz.f7 Rows.lossHoldsRow.domain false) (Rows.lossHoldsSpec.post enc Tryz.prog Tryz.f7 false true false false) := by
  refine returnsInHanded_of_change (C := Tryz.checked) own started (by kernel_rfl) Tryz.func7
    (ChangeSpec.witness6 (enc := enc) (C := Tryz.checked) false ⟨#[], #[.slice none 0 0, .int .u8 0], []⟩ 8 (by kernel_rfl) (by kernel_rfl) (by kernel_rfl) (by kernel_rfl)) ?_
  intro W base args ds gs before hval0 hW hcnd _
  have hval : ∀ (j : Nat) t v, Tryz.f7.params[j]? = some t → args[j]? = some v → Value.okWide Tryz.prog W .any base t v := hval0
  have hW' := hW
  obtain ⟨p, q, hA0, hV, rfl, hfz, hnd⟩ := hW
  have hA : DataW.TrodAll enc Tryz.prog W 0 (fun _ => true) true Tryz.f7.params.toList args.toList ds p := hA0
  rw [Tryz.params7] at hA hval
  obtain ⟨v0, vs0, d0, ds0, p0, q0, hargs0, rfl, rfl, h0, r0⟩ := trodAll_cons hA
  obtain ⟨v1, vs1, d1, ds1, p1, q1, hargs1, rfl, rfl, h1, r1⟩ := trodAll_cons r0
  obtain ⟨rfl, rfl, rfl⟩ := trodAll_nil r1
  obtain rfl : args = #[v0, v1] := by cases args; simp_all
  obtain ⟨rfl, rfl⟩ := trodVars_none hV
  obtain ⟨a0, len0, cap0, rfl⟩ := okWide_slice Tryz.underlying22 (hval 0 22 v0 rfl rfl)
  have k0 := h0
  have lt0 : ∀ x ∈ p0, x.block < W.heap.size := by obtain ⟨m, hm⟩ := k0; exact DataW.trod_lt m _ _ _ hm
  obtain ⟨f0, t0⟩ := h0
  obtain ⟨u0, z0, e0, c0, w0⟩ := bytes_in Tryz.underlying22 Tryz.underlying5 (by kernel_rfl) t0
  have e0 : Value.slice a0 len0 cap0 = u0 := by simpa [Value.cells] using e0
  subst e0
  obtain ⟨a1, rfl, rfl, rfl, w1⟩ := open_int Tryz.underlying5 (hval 1 5 v1 rfl rfl) h1
  clear hA0 hval0
  refine (((LossHolds_ok z0 a1 c0 (byte_range w1)) (fun _ => True) W [.slice a0 len0 cap0, .int .u8 a1] (fun _ _ => trivial) ⟨w0, rfl, trivial⟩)).mono fun e W' ⟨v, he, hv, bel⟩ => ?_
  have hv : v = .bool true := hv
  subst hv he
  exact ⟨_, rfl, _, _, _, [], _, [], hW', trodAll_mk1 (shut_bool Tryz.underlying4 _), (trodAll_cons_mk (Below.trod laidOut (by kernel_rfl) (of_decide_eq_true (by kernel_rfl)) k0 bel.kit lt0) (trodAll_cons_mk (shut_int Tryz.underlying5 w1) trodAll_mk0)), rfl, bel.kit.frame _, fun h => by cases h⟩
theorem over : Rows.lossHoldsRow.holds Tryz.pinned (OpenSpec.ofChange Rows.lossHoldsSpec) :=
  OpenClaim.holds_of_wide 7 Tryz.f7 rfl rfl rfl rfl rfl rfl rfl ⟨rfl, rfl, rfl, rfl, rfl⟩ rfl rfl rfl rfl rfl (by kernel_rfl) Tryz.func7 (by kernel_rfl)
    (of_decide_eq_true (by kernel_rfl)) (by unfold Func.isWrapper; first | (rw [if_pos (by decide +kernel)]; kernel_rfl) | (rw [if_neg (by decide +kernel)]; exact ⟨rfl, rfl⟩))
    (fun os started H enc _ => lifted os started H enc)
theorem proved : Rows.LossHoldsSaid := over
#print axioms proved
end Go.Proofs.YtlkdkbdgnjcopaaGreat.lossHolds
