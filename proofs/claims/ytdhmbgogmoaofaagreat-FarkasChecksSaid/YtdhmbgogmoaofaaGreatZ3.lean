/- The proof that FarkasChecks holds for every input, without conditions: part 3 of 6. -/
import Derived.Test.YtdhmbgogmoaofaaGreatZ2
namespace Go.Det
variable {A : Nat → Vec} {V : Vec → Prop} {M : Nat} {bs : List Nat}
theorem Bas.gen {r s i : Nat} (h : Bas A V M bs) (hr : r < M) (hi : i < M) (hir : i ≠ r) {x : Vec} (hx : V x) :
    den A bs * ((dD A bs).sign * dT A (bs.set r s) i x) = tt A bs r (A s) * tt A bs i x - tt A bs r x * tt A bs i (A s) := by
  have h1 := h.piv_i (s := s) hr hi hir hx; have h2 := sgn_sq h.ne; unfold tt den; generalize (dD A bs).sign = σ at *
  grind
theorem sign_neg {d p : Int} (h : d ≠ 0) (hp : d.sign * p < 0) : p.sign = - d.sign := by
  rcases Int.lt_or_gt_of_ne h with h | h
  · rw [Int.sign_eq_neg_one_of_neg h] at hp ⊢; exact Int.sign_eq_one_of_pos (by omega)
  · rw [Int.sign_eq_one_of_pos h] at hp ⊢; exact Int.sign_eq_neg_one_of_neg (by omega)
theorem Bas.gsgn {r s : Nat} (h : Bas A V M bs) (hp : tt A bs r (A s) ≠ 0) : (dD A (bs.set r s)).sign = (dD A bs).sign ∧ 0 < tt A bs r (A s) ∨ (dD A (bs.set r s)).sign = -(dD A bs).sign ∧ tt A bs r (A s) < 0 := by
  rcases Int.lt_or_gt_of_ne hp with h1 | h1
  · exact .inr ⟨by rw [piv_D]; exact sign_neg h.ne h1, h1⟩
  · exact .inl ⟨by rw [piv_D]; exact sign_of_mul h.ne h1, h1⟩
theorem Bas.gne {r s : Nat} (h : Bas A V M bs) (hp : tt A bs r (A s) ≠ 0) : dT A bs r (A s) ≠ 0 := fun e => by unfold tt at hp; rw [e] at hp; simp at hp
end Go.Det
namespace Go.Proofs.YtdhmbgogmoaofaaGreat
open Go.Own Go.Limbs Go.Det
structure View (A : Nat → Vec) (V : Vec → Prop) (M m : Nat) (q : Vec) (T : Tv) (bs : List Nat) : Prop where
  bas : Bas A V M bs
  den : T.den = Go.Det.den A bs
  num : ∀ i, i < T.rows.length → ∀ j, j < T.col.length → T.at i j = tt A bs i (A (T.col.getD j 0).toNat)
  rhs : ∀ i, i < T.rows.length → T.at i T.col.length = tt A bs i q
  basl : T.bas.length = m
  basv : ∀ i, i < m → T.bas.getD i 0 = (bs.getD i 0 : Nat)
  colv : ∀ j, 0 ≤ T.col.getD j 0
  row : ∀ i, i < T.rows.length → (T.rows.getD i []).length = T.col.length + 1
  rm : m ≤ T.rows.length
  rM : T.rows.length ≤ M
theorem at_neg {rows : List (List Int)} {i j : Nat} : ((rows.map negL).getD i []).getD j 0 = -((rows.getD i []).getD j 0) := by
  simp only [List.getD_eq_getElem?_getD, List.getElem?_map]
  cases h : rows[i]? with
  | none => simp
  | some l =>
    simp only [Option.map_some, Option.getD_some, negL, List.getElem?_map]
    cases h2 : l[j]? with
    | none => simp
    | some x => simp
theorem pvt_raw {T : Tv} {r s i j : Nat} (hi : i < T.rows.length) (hr : r < T.rows.length) (hrow : (T.rows.getD i []).length = T.col.length + 1) (hs : s < T.col.length + 1) (hj : j < T.col.length + 1) :
    (((pvRows T r s T.rows.length).set r ((T.rows.getD r []).set s T.den)).getD i []).getD j 0 =
      if i = r then (if j = s then T.den else T.at r j) else if j = s then -(T.at i s) else (T.at i j * T.at r s + -(T.at r j * T.at i s)).tdiv T.den := by
  by_cases hir : i = r
  · subst hir; rw [Z1 (by rw [pvRows_len]; exact hi), if_pos J, if_pos J]; rw [Z1 (by omega)]; by_cases hjs : j = s
    · subst hjs; simp
    · rw [if_neg (Ne.symm hjs), if_neg hjs]
  · rw [Z1 (by rw [pvRows_len]; exact hr), if_neg (Ne.symm hir), if_neg hir]; unfold pvRows; rw [range_getD _ _ _ hi, if_pos ⟨hi, hir⟩]; unfold pvRow; rw [range_getD _ _ _ (by omega)]; unfold pvZ; by_cases hjs : j = s
    · rw [if_pos hjs]
    · rw [if_neg hjs]
theorem pvt_at {T : Tv} {r s i j : Nat} (hi : i < T.rows.length) (hr : r < T.rows.length) (hrow : (T.rows.getD i []).length = T.col.length + 1) (hs : s < T.col.length + 1) (hj : j < T.col.length + 1) :
    (pvt T r s).at i j = (if T.at r s < 0 then -1 else 1) * (if i = r then (if j = s then T.den else T.at r j) else if j = s then -(T.at i s) else (T.at i j * T.at r s + -(T.at r j * T.at i s)).tdiv T.den) := by
  have h := pvt_raw hi hr hrow hs hj; unfold Tv.at pvt; by_cases hp : T.at r s < 0
  · simp only [if_pos hp]; rw [at_neg, h]; unfold Tv.at; grind
  · simp only [if_neg hp]; rw [h]; unfold Tv.at; grind
theorem set_getDI {l : List Int} {i j : Nat} {x : Int} (h : i < l.length) : (l.set i x).getD j 0 = if i = j then x else l.getD j 0 := Z1 h
theorem pvt_rowlen {T : Tv} {r s i : Nat} (hi : i < T.rows.length) (hr : r < T.rows.length) : ((pvt T r s).rows.getD i []).length = (T.rows.getD i []).length := by
  have key : (((pvRows T r s T.rows.length).set r ((T.rows.getD r []).set s T.den)).getD i []).length = (T.rows.getD i []).length := by
    by_cases hir : i = r
    · subst hir; rw [Z1 (by rw [pvRows_len]; exact hi), if_pos rfl, List.length_set]
    · rw [Z1 (by rw [pvRows_len]; exact hr), if_neg (Ne.symm hir)]; unfold pvRows; rw [range_getD _ _ _ hi, if_pos ⟨hi, hir⟩, pvRow_len]
  unfold pvt; by_cases hp : T.at r s < 0
  · simp only [if_pos hp]; rw [← key]; simp only [List.getD_eq_getElem?_getD, List.getElem?_map]
    cases (((pvRows T r s T.rows.length).set r ((T.rows[r]?.getD []).set s T.den))[i]?) with
    | none => simp
    | some l => simp [negL]
  · simp only [if_neg hp]; exact key
theorem View.pvt {A : Nat → Vec} {V : Vec → Prop} {M m : Nat} {q : Vec} {T : Tv} {bs : List Nat} (h : View A V M m q T bs) (hq : V q) (hA : ∀ v, V (A v)) {r s : Nat} (hr : r < m) (hs : s < T.col.length) (hp : T.at r s ≠ 0) :
    View A V M m q (pvt T r s) (bs.set r (T.col.getD s 0).toNat) := by
  have hrl : r < T.rows.length := by have := h.rm; omega
  have hrM : r < M := by have := h.rM; omega
  have hlen := h.bas.len; have ep := h.num r hrl s hs
  have hne : tt A bs r (A (T.col.getD s 0).toNat) ≠ 0 := by rw [← ep]; exact hp
  have hB := h.bas.piv hrM (hA (T.col.getD s 0).toNat) (h.bas.gne hne); have hsg := h.bas.gsgn hne; have hd := den_pos h.bas.ne; rw [← ep] at hsg
  have one : ∀ i, i < T.rows.length → ∀ x, V x → ∀ j, j < T.col.length + 1 → j ≠ s → T.at i j = tt A bs i x → T.at r j = tt A bs r x → (Go.Proofs.YtdhmbgogmoaofaaGreat.pvt T r s).at i j = tt A (bs.set r (T.col.getD s 0).toNat) i x := by
    intro i hi x hx j hj hjs e1 e2; rw [pvt_at hi hrl (h.row i hi) (by omega) hj]; by_cases hir : i = r
    · subst hir; rw [if_pos J, if_neg hjs, e2]; unfold tt; rw [piv_r]; rcases hsg with ⟨h1, h2⟩ | ⟨h1, h2⟩
      · rw [if_neg (by omega), h1, Int.one_mul]
      · rw [if_pos h2, h1, Int.neg_mul, Int.neg_mul, Int.one_mul]
    · rw [if_neg hir, if_neg hjs]; have hg := h.bas.gen (s := (T.col.getD s 0).toNat) hrM (by have := h.rM; omega) hir hx; rw [e1, e2, ep, h.num i hi s hs, h.den]
      have e3 : tt A bs i x * tt A bs r (A (T.col.getD s 0).toNat) + -(tt A bs r x * tt A bs i (A (T.col.getD s 0).toNat)) = Go.Det.den A bs * ((dD A bs).sign * dT A (bs.set r (T.col.getD s 0).toNat) i x) := by rw [hg, Int.mul_comm (tt A bs i x)]; omega
      rw [e3, Int.mul_tdiv_cancel_left _ (by omega)]; unfold tt; rw [ep] at hsg; unfold tt at hsg; rcases hsg with ⟨h1, h2⟩ | ⟨h1, h2⟩
      · rw [if_neg (by omega), h1, Int.one_mul]
      · rw [if_pos h2, h1, Int.neg_mul, Int.neg_mul, Int.one_mul]
  have two : ∀ i, i < T.rows.length → (Go.Proofs.YtdhmbgogmoaofaaGreat.pvt T r s).at i s = tt A (bs.set r (T.col.getD s 0).toNat) i (A (bs.getD r 0)) := by
    intro i hi; rw [pvt_at hi hrl (h.row i hi) (by omega) (by omega), if_pos J, if_pos J]; unfold tt; by_cases hir : i = r
    · subst hir; rw [if_pos J, piv_r, dT_own (by omega), h.den]; unfold Go.Det.den; rcases hsg with ⟨h1, h2⟩ | ⟨h1, h2⟩
      · rw [if_neg (by omega), h1, Int.one_mul]
      · rw [if_pos h2, h1, Int.neg_mul, Int.neg_mul, Int.one_mul]
    · rw [if_neg hir, piv_l (by omega) (by have := h.rM; omega) hir, h.num i hi s hs]; unfold tt; rcases hsg with ⟨h1, h2⟩ | ⟨h1, h2⟩
      · rw [if_neg (by omega), h1, Int.one_mul, Int.mul_neg]
      · rw [if_pos h2, h1]; grind
  refine ⟨hB, ?_, fun i hi j hj => ?_, fun i hi => ?_, by rw [pvt_bas]; exact h.basl, fun i hi => ?_, fun j => ?_, fun i hi => ?_, by rw [Zk]; exact h.rm, by rw [Zk]; exact h.rM⟩
  · show (if T.at r s < 0 then -(T.at r s) else T.at r s) = _; unfold Go.Det.den; rw [piv_D] at hsg ⊢; rw [ep] at hsg ⊢; unfold tt at hsg ⊢; rcases hsg with ⟨h1, h2⟩ | ⟨h1, h2⟩
    · rw [if_neg (by omega), h1]
    · rw [if_pos h2, h1, Int.neg_mul]
  · rw [Zk] at hi; rw [Z8] at hj; show _ = tt A _ i (A ((T.col.set s (T.bas.getD r 0)).getD j 0).toNat); rw [set_getDI hs]; by_cases hjs : s = j
    · subst hjs; rw [if_pos J, h.basv r hr, Int.toNat_natCast]; exact two i hi
    · rw [if_neg hjs]; exact one i hi _ (hA _) j (by omega) (Ne.symm hjs) (h.num i hi j hj) (h.num r hrl j hj)
  · rw [Zk] at hi; rw [Z8]; exact one i hi q hq T.col.length (by omega) (by omega) (h.rhs i hi) (h.rhs r hrl)
  · show (T.bas.set r (T.col.getD s 0)).getD i 0 = _; rw [set_getDI (by rw [h.basl]; exact hr), getD_set' (by omega)]; by_cases hir : r = i
    · rw [if_pos hir, if_pos hir]; have := h.colv s; omega
    · rw [if_neg hir, if_neg hir]; exact h.basv i hi
  · show 0 ≤ (T.col.set s (T.bas.getD r 0)).getD j 0; rw [set_getDI hs]; split
    · rw [h.basv r hr]; omega
    · exact h.colv j
  · rw [Zk] at hi; rw [pvt_rowlen hi hrl, Z8]; exact h.row i hi
theorem entS_none {gr col : List Int} : ∀ {j : Nat}, entS gr col j < 0 → ∀ k, k < j → 0 ≤ gr.getD k 0
  | 0, _, k, hk => by omega
  | j + 1, h, k, hk => by
    simp only [entS] at h
    by_cases hc : gr.getD j 0 < 0 ∧ (entS gr col j < 0 ∨ col.getD j 0 < col.getD (entS gr col j).toNat 0)
    · rw [if_pos hc] at h; omega
    · rw [if_neg hc] at h
      by_cases hkj : k = j
      · subst hkj
        by_cases h5 : gr.getD k 0 < 0
        · exact absurd ⟨h5, .inl h⟩ hc
        · omega
      · exact entS_none h k (by omega)
theorem entS_hit {gr col : List Int} : ∀ {j : Nat}, 0 ≤ entS gr col j → gr.getD (entS gr col j).toNat 0 < 0 ∧ ∀ k, k < j → gr.getD k 0 < 0 → col.getD (entS gr col j).toNat 0 ≤ col.getD k 0
  | 0, h => by simp [entS] at h
  | j + 1, h => by
    simp only [entS] at h ⊢
    by_cases hc : gr.getD j 0 < 0 ∧ (entS gr col j < 0 ∨ col.getD j 0 < col.getD (entS gr col j).toNat 0)
    · rw [if_pos hc, Int.toNat_natCast]
      refine ⟨hc.1, fun k hk hk2 => ?_⟩
      by_cases hkj : k = j
      · subst hkj; exact Int.le_refl _
      · rcases hc.2 with h2 | h2
        · exact absurd hk2 (by have := (entS_none (gr := gr) (col := col) h2) k (by omega); omega)
        · by_cases h3 : 0 ≤ entS gr col j
          · have := (entS_hit h3).2 k (by omega) hk2; omega
          · exact absurd hk2 (by have := (entS_none (gr := gr) (col := col) (j := j) (by omega)) k (by omega); omega)
    · rw [if_neg hc] at h ⊢
      have ih := entS_hit h
      refine ⟨ih.1, fun k hk hk2 => ?_⟩
      by_cases hkj : k = j
      · subst hkj
        have : ¬ (col.getD k 0 < col.getD (entS gr col k).toNat 0) := fun h4 => hc ⟨hk2, .inr h4⟩
        omega
      · exact ih.2 k (by omega) hk2
theorem levS_none {T : Tv} {s : Nat} : ∀ {j : Nat}, levS T s j < 0 → ∀ k, k < j → T.at k s ≤ 0
  | 0, _, k, hk => by omega
  | j + 1, h, k, hk => by
    simp only [levS] at h
    by_cases h1 : T.at j s ≤ 0
    · rw [if_pos h1] at h
      by_cases hkj : k = j
      · subst hkj; exact h1
      · exact levS_none h k (by omega)
    · rw [if_neg h1] at h
      split at h
      · omega
      · split at h
        · omega
        · rename_i h2 _; exact absurd h h2
theorem ratio_trans {a b c d e f : Int} (hd : 0 < d) (hb : 0 < b) (hf : 0 < f) (h1 : a * d ≤ c * b) (h2 : c * f ≤ e * d) : a * f ≤ e * b ∧ (a * f = e * b → a * d = c * b ∧ c * f = e * d) := by
  have e1 : a * d * f ≤ c * b * f := Int.mul_le_mul_of_nonneg_right h1 (by omega); have e2 : c * f * b ≤ e * d * b := Int.mul_le_mul_of_nonneg_right h2 (by omega)
  have e3 : (a * f) * d ≤ (e * b) * d := by grind
  constructor
  · exact Int.le_of_mul_le_mul_right e3 hd
  · intro h3
    have e4 : a * f * d = e * b * d := by rw [h3]
    have q1 : a * d * f = a * f * d := by grind
    have q2 : c * b * f = c * f * b := by grind
    have q3 : e * d * b = e * b * d := by grind
    constructor
    · have : a * d * f = c * b * f := by omega
      exact Int.eq_of_mul_eq_mul_right (by omega) this
    · have : c * f * b = e * d * b := by omega
      exact Int.eq_of_mul_eq_mul_right (by omega) this
theorem levS_hit {T : Tv} {s : Nat} : ∀ {j : Nat}, 0 ≤ levS T s j → 0 < T.at (levS T s j).toNat s ∧ ∀ k, k < j → 0 < T.at k s →
    T.at (levS T s j).toNat T.col.length * T.at k s ≤ T.at k T.col.length * T.at (levS T s j).toNat s ∧ (T.at (levS T s j).toNat T.col.length * T.at k s = T.at k T.col.length * T.at (levS T s j).toNat s → T.bas.getD (levS T s j).toNat 0 ≤ T.bas.getD k 0)
  | 0, h => by simp [levS] at h
  | j + 1, h => by
    simp only [levS] at h ⊢
    by_cases h1 : T.at j s ≤ 0
    · rw [if_pos h1] at h ⊢
      have ih := levS_hit h
      refine ⟨ih.1, fun k hk hk2 => ?_⟩
      by_cases hkj : k = j
      · subst hkj; omega
      · exact ih.2 k (by omega) hk2
    · rw [if_neg h1] at h ⊢
      by_cases h2 : levS T s j < 0
      · rw [if_pos h2, Int.toNat_natCast]
        refine ⟨by omega, fun k hk hk2 => ?_⟩
        by_cases hkj : k = j
        · subst hkj; exact ⟨Int.le_refl _, fun _ => Int.le_refl _⟩
        · have := levS_none h2 k (by omega); omega
      · rw [if_neg h2] at h ⊢
        have ih := levS_hit (T := T) (s := s) (j := j) (by omega)
        generalize (levS T s j) = l at *
        by_cases h3 : T.at j T.col.length * T.at l.toNat s + -(T.at l.toNat T.col.length * T.at j s) < 0 ∨ (T.at j T.col.length * T.at l.toNat s + -(T.at l.toNat T.col.length * T.at j s) = 0 ∧ T.bas.getD j 0 < T.bas.getD l.toNat 0)
        · rw [if_pos h3, Int.toNat_natCast]
          refine ⟨by omega, fun k hk hk2 => ?_⟩
          by_cases hkj : k = j
          · subst hkj; exact ⟨Int.le_refl _, fun _ => Int.le_refl _⟩
          · have i2 := ih.2 k (by omega) hk2
            have r := ratio_trans ih.1 (show 0 < T.at j s by omega) hk2 (a := T.at j T.col.length) (c := T.at l.toNat T.col.length) (e := T.at k T.col.length) (by omega) i2.1
            refine ⟨r.1, fun he => ?_⟩
            have r2 := r.2 he
            have := i2.2 r2.2
            rcases h3 with h3 | h3
            · omega
            · omega
        · rw [if_neg h3]
          refine ⟨ih.1, fun k hk hk2 => ?_⟩
          by_cases hkj : k = j
          · subst hkj
            refine ⟨by omega, fun he => ?_⟩
            have : ¬ (T.bas.getD k 0 < T.bas.getD l.toNat 0) := fun h5 => h3 (.inr ⟨by omega, h5⟩)
            omega
          · exact ih.2 k (by omega) hk2
end Go.Proofs.YtdhmbgogmoaofaaGreat
namespace Go.Proofs.YtdhmbgogmoaofaaGreat
open Go.Own Go.Limbs Go.Det
structure Sys (A : Nat → Vec) (V : Vec → Prop) (M : Nat) (q : Vec) : Prop where
  hq : V q
  hA : ∀ v, V (A v)
  smT : ∀ bs i x, bs.length = M → i < M → V x → x = q ∨ (∃ v, x = A v) → (dT A bs i x).natAbs < 1073741824 ^ 60
  smD : ∀ bs, bs.length = M → (dD A bs).natAbs < 1073741824 ^ 60
structure Cov (W m : Nat) (T : Tv) (bs : List Nat) : Prop where
  all : ∀ v, v < W → (∃ i, i < m ∧ bs.getD i 0 = v) ∨ ∃ j, j < T.col.length ∧ T.col.getD j 0 = (v : Int)
  col : ∀ j, j < T.col.length → T.col.getD j 0 < (W : Int)
  bas : ∀ i, i < m → bs.getD i 0 < W
  dis : ∀ j i, j < T.col.length → i < m → T.col.getD j 0 ≠ (bs.getD i 0 : Nat)
  inj : ∀ j k, j < T.col.length → k < T.col.length → j ≠ k → T.col.getD j 0 ≠ T.col.getD k 0
structure Good (A : Nat → Vec) (V : Vec → Prop) (M m : Nat) (q : Vec) (W : Nat) (T : Tv) (bs : List Nat) : Prop where
  view : View A V M m q T bs
  cov : Cov W m T bs
  feas : ∀ i, i < m → 0 ≤ tt A bs i q
  hl : T.hl.length = T.rows.length
  few : T.rows.length ≤ 100
  thin : T.col.length ≤ 100
section
variable {A : Nat → Vec} {V : Vec → Prop} {M m W : Nat} {q : Vec} {T : Tv} {bs : List Nat}
theorem tt_small (h : Sys A V M q) {i : Nat} {x : Vec} (hl : bs.length = M) (hi : i < M) (hx : V x) (hx2 : x = q ∨ ∃ v, x = A v) : (limbs (tt A bs i x).natAbs).length ≤ 60 := by
  refine Qf (Nat.lt_of_le_of_lt ?_ (h.smT bs i x hl hi hx hx2)); unfold tt; rw [Int.natAbs_mul]
  have : (dD A bs).sign.natAbs ≤ 1 := by rw [Int.natAbs_sign]; split <;> omega
  exact Nat.le_trans (Nat.mul_le_mul_right _ this) (by omega)
theorem den_small (h : Sys A V M q) (hl : bs.length = M) : (limbs (Go.Det.den A bs).natAbs).length ≤ 60 := by
  refine Qf (Nat.lt_of_le_of_lt ?_ (h.smD bs hl)); unfold Go.Det.den; rw [Int.natAbs_mul]
  have : (dD A bs).sign.natAbs ≤ 1 := by rw [Int.natAbs_sign]; split <;> omega
  exact Nat.le_trans (Nat.mul_le_mul_right _ this) (by omega)
theorem View.gd (h : View A V M m q T bs) (hS : Sys A V M q) (hl : T.hl.length = T.rows.length) (hf : T.rows.length ≤ 100) (ht : T.col.length ≤ 100) : Gd T := by
  refine ⟨⟨hl, h.row, by rw [h.basl]; exact h.rm, hf, ht⟩, fun i j => ?_, by rw [h.den]; exact den_pos h.bas.ne, by rw [h.den]; exact den_small hS h.bas.len⟩; by_cases hi : i < T.rows.length
  · have hiM : i < M := by have := h.rM; omega
    by_cases hj : j < T.col.length
    · rw [h.num i hi j hj]; exact tt_small hS h.bas.len hiM (hS.hA _) (.inr ⟨_, rfl⟩)
    · by_cases hj2 : j = T.col.length
      · rw [hj2, h.rhs i hi]; exact tt_small hS h.bas.len hiM hS.hq (.inl J)
      · have : T.at i j = 0 := by
          unfold Tv.at; exact getD_ge (by rw [h.row i hi]; omega)
        rw [this]; rw [show (0 : Int).natAbs = 0 from rfl, limbs_zero]; decide
  · have : T.at i j = 0 := by
      unfold Tv.at
      have : T.rows.getD i [] = [] := by rw [List.getD_eq_getElem?_getD, List.getElem?_eq_none (by omega)]; rfl
      rw [this]; rfl
    rw [this]; rw [show (0 : Int).natAbs = 0 from rfl, limbs_zero]; decide
theorem Cov.pvt (h : Cov W m T bs) (hv : View A V M m q T bs) {r s : Nat} (hr : r < m) (hs : s < T.col.length) : Cov W m (pvt T r s) (bs.set r (T.col.getD s 0).toNat) := by
  have hlen := hv.bas.len
  have hrM : r < M := by have := hv.rm; have := hv.rM; omega
  have hc := hv.colv s; have hcW := h.col s hs; have hne := hv.bas.ne
  have key : ∀ j, (Go.Proofs.YtdhmbgogmoaofaaGreat.pvt T r s).col.getD j 0 = if s = j then ((bs.getD r 0 : Nat) : Int) else T.col.getD j 0 := fun j => by
    show (T.col.set s (T.bas.getD r 0)).getD j 0 = _; rw [set_getDI hs, hv.basv r hr]
  have hmM : m ≤ M := Nat.le_trans hv.rm hv.rM
  have bdis : ∀ i, i < m → i ≠ r → bs.getD i 0 ≠ bs.getD r 0 := fun i hi hir e => hne (Y3 (i := r) (k := i) (by omega) (by omega) hir e.symm)
  refine ⟨fun v hvW => ?_, fun j hj => ?_, fun i hi => ?_, fun j i hj hi => ?_, fun j k hj hk hjk => ?_⟩; rotate_left; rotate_left; rotate_left
  · rw [Z8] at hj; rw [key, getD_set' (by omega)]; by_cases h1 : s = j
    · rw [if_pos h1]; by_cases h2 : r = i
      · rw [if_pos h2]; have := h.dis s r hs hr; omega
      · rw [if_neg h2]; have := bdis i hi (Ne.symm h2); omega
    · rw [if_neg h1]; by_cases h2 : r = i
      · rw [if_pos h2]; have := h.inj j s hj hs (Ne.symm h1); omega
      · rw [if_neg h2]; exact h.dis j i hj hi
  · rw [Z8] at hj hk; rw [key, key]; by_cases h1 : s = j
    · rw [if_pos h1, if_neg (by omega)]; exact (h.dis k r hk hr).symm
    · rw [if_neg h1]; by_cases h2 : s = k
      · rw [if_pos h2]; exact h.dis j r hj hr
      · rw [if_neg h2]; exact h.inj j k hj hk hjk
  · rcases h.all v hvW with ⟨i, hi, he⟩ | ⟨j, hj, he⟩
    · by_cases hir : r = i
      · subst hir; refine .inr ⟨s, by rw [Z8]; exact hs, ?_⟩; show (T.col.set s (T.bas.getD r 0)).getD s 0 = _; rw [set_getDI hs, if_pos J, hv.basv r hr, he]
      · exact .inl ⟨i, hi, by rw [getD_set' (by omega), if_neg hir]; exact he⟩
    · by_cases hjs : s = j
      · subst hjs; exact .inl ⟨r, hr, by rw [getD_set' (by omega), if_pos J, he]; rfl⟩
      · refine .inr ⟨j, by rw [Z8]; exact hj, ?_⟩; show (T.col.set s (T.bas.getD r 0)).getD j 0 = _; rw [set_getDI hs, if_neg hjs]; exact he
  · rw [Z8] at hj; show (T.col.set s (T.bas.getD r 0)).getD j 0 < _; rw [set_getDI hs]; split
    · rw [hv.basv r hr]; have := h.bas r hr; omega
    · exact h.col j hj
  · rw [getD_set' (by omega)]; split
    · omega
    · exact h.bas i hi
def en (g : Nat) (T : Tv) : Int := entS (T.rows.getD g []) T.col T.col.length
def lv (g : Nat) (T : Tv) : Int := levS T (en g T).toNat T.bas.length
def stop (g : Nat) (T : Tv) : Prop := en g T < 0 ∨ lv g T < 0
theorem en_bd (g : Nat) (T : Tv) : -1 ≤ en g T ∧ en g T < T.col.length := entS_bd _ _ _
theorem lv_bd (g : Nat) (T : Tv) : -1 ≤ lv g T ∧ lv g T < T.bas.length := levS_bd _ _ _
theorem Good.step (h : Good A V M m q W T bs) (hS : Sys A V M q) {g : Nat} (hg : m ≤ g) (hgT : g < T.rows.length) (hn : ¬ stop g T) :
    Step A m g q (fun v => v < W) bs (lv g T).toNat (T.col.getD (en g T).toNat 0).toNat := by
  have b1 := en_bd g T; have b2 := lv_bd g T
  have he0 : 0 ≤ en g T := by unfold stop at hn; omega
  have hl0 : 0 ≤ lv g T := by unfold stop at hn; omega
  have eh := entS_hit (show 0 ≤ entS (T.rows.getD g []) T.col T.col.length from he0); have lh := levS_hit (show 0 ≤ levS T (en g T).toNat T.bas.length from hl0); obtain ⟨e, he⟩ : ∃ e : Nat, en g T = e := ⟨(en g T).toNat, by omega⟩; obtain ⟨l, hl⟩ : ∃ l : Nat, lv g T = l := ⟨(lv g T).toNat, by omega⟩; rw [show entS (T.rows.getD g []) T.col T.col.length = en g T from rfl, he] at eh; rw [show levS T (en g T).toNat T.bas.length = lv g T from rfl, hl, he] at lh; rw [hl, he]; simp only [Int.toNat_natCast] at eh lh ⊢; rw [h.view.basl] at b2
  have heT : e < T.col.length := by omega
  have hlm : l < m := by omega
  have hV := h.view; have hrm := hV.rm; have hrM := hV.rM; have hce := hV.colv e; have hcW := h.cov.col e heT; refine ⟨hlm, by omega, ?_, fun v hv hvW => ?_, ?_, fun i hi hp => ?_, fun i hi hp he2 => ?_⟩
  · rw [← hV.num g hgT e heT]; exact eh.1
  · rcases h.cov.all v hvW with ⟨i, hi, hb⟩ | ⟨j, hj, hb⟩
    · rw [← hb, Zg hV.bas.len (by omega) (by omega) (by omega)]; exact Int.le_refl _
    · have h1 := hV.num g hgT j hj; rw [hb, Int.toNat_natCast] at h1; rw [← h1]
      refine Classical.byContradiction fun h2 => ?_
      have := eh.2 j hj (by show T.at g j < 0; omega); omega
  · rw [← hV.num l (by omega) e heT]; exact lh.1
  · rw [← hV.num i (by omega) e heT, ← hV.num l (by omega) e heT, ← hV.rhs i (by omega), ← hV.rhs l (by omega)]; rw [← hV.num i (by omega) e heT] at hp; exact (lh.2 i (by rw [hV.basl]; exact hi) hp).1
  · rw [← hV.num i (by omega) e heT, ← hV.num l (by omega) e heT, ← hV.rhs i (by omega), ← hV.rhs l (by omega)] at he2; rw [← hV.num i (by omega) e heT] at hp; have := (lh.2 i (by rw [hV.basl]; exact hi) hp).2 he2; rw [hV.basv l hlm, hV.basv i hi] at this; omega
theorem Good.pvt (h : Good A V M m q W T bs) (hS : Sys A V M q) {g : Nat} (hg : m ≤ g) (hgT : g < T.rows.length) (hn : ¬ stop g T) :
    Good A V M m q W (pvt T (lv g T).toNat (en g T).toNat) (bs.set (lv g T).toNat (T.col.getD (en g T).toNat 0).toNat) := by
  have st := h.step hS hg hgT hn; have b1 := en_bd g T; have b2 := lv_bd g T
  have he0 : 0 ≤ en g T := by unfold stop at hn; omega
  have hl0 : 0 ≤ lv g T := by unfold stop at hn; omega
  rw [h.view.basl] at b2; have hV := h.view; have hrm := hV.rm; have hrM := hV.rM
  have hp : T.at (lv g T).toNat (en g T).toNat ≠ 0 := by
    rw [hV.num _ (by omega) _ (by omega)]; have := st.lev; omega
  refine ⟨hV.pvt hS.hq hS.hA (by omega) (by omega) hp, h.cov.pvt hV (by omega) (by omega), st.feas hV.bas (by omega) hS.hq h.feas, ?_, by rw [Zk]; exact h.few, by rw [Z8]; exact h.thin⟩; rw [Zk]; exact h.hl
def nx (g : Nat) (x : Tv × List Nat) : Tv × List Nat := (pvt x.1 (lv g x.1).toNat (en g x.1).toNat, x.2.set (lv g x.1).toNat (x.1.col.getD (en g x.1).toNat 0).toNat)
def it (g : Nat) : Nat → Tv × List Nat → Tv × List Nat
  | 0, x => x
  | n + 1, x => it g n (nx g x)
theorem it_succ (g : Nat) : ∀ n x, it g (n + 1) x = nx g (it g n x)
  | 0, _ => rfl
  | n + 1, x => by
    show it g (n + 1) (nx g x) = _
    rw [it_succ g n (nx g x)]; rfl
theorem least {p : Nat → Prop} (h : ∃ k, p k) : ∃ k, p k ∧ ∀ j, j < k → ¬ p j := by
  obtain ⟨k, hk⟩ := h
  induction k using Nat.strongRecOn with
  | ind k ih =>
    by_cases h1 : ∃ j, j < k ∧ p j
    · obtain ⟨j, hj, hp⟩ := h1; exact ih j hj hp
    · exact ⟨k, hk, fun j hj hp => h1 ⟨j, hj, hp⟩⟩
theorem nx_rows (g : Nat) (x : Tv × List Nat) : (nx g x).1.rows.length = x.1.rows.length := Zk _ _ _
def EndP (A : Nat → Vec) (m g W : Nat) (T : Tv) (bs : List Nat) (s : Int) : Prop :=
  (s = -1 ∧ ∀ v, v < W → 0 ≤ tt A bs g (A v)) ∨ ∃ e : Nat, s = e ∧ e < T.col.length ∧ tt A bs g (A (T.col.getD e 0).toNat) < 0 ∧ ∀ i, i < m → tt A bs i (A (T.col.getD e 0).toNat) ≤ 0
theorem Good.endp (h : Good A V M m q W T bs) {g : Nat} (hg : m ≤ g) (hgT : g < T.rows.length) (hs : stop g T) : ∃ s, EndP A m g W T bs s ∧ ((en g T < 0 ∧ s = -1) ∨ (0 ≤ en g T ∧ lv g T < 0 ∧ s = en g T)) := by
  have hV := h.view; have hrM := hV.rM; have b1 := en_bd g T; by_cases he : en g T < 0
  · refine ⟨-1, .inl ⟨rfl, fun v hv => ?_⟩, .inl ⟨he, rfl⟩⟩; rcases h.cov.all v hv with ⟨i, hi, hb⟩ | ⟨j, hj, hb⟩
    · rw [← hb, Zg hV.bas.len (by omega) (by omega) (by omega)]; exact Int.le_refl _
    · have h1 := hV.num g hgT j hj; rw [hb, Int.toNat_natCast] at h1; rw [← h1]; exact entS_none he j hj
  · have hl : lv g T < 0 := by unfold stop at hs; omega
    obtain ⟨e, hee⟩ : ∃ e : Nat, en g T = e := ⟨(en g T).toNat, by omega⟩; have eh := entS_hit (show 0 ≤ entS (T.rows.getD g []) T.col T.col.length by show 0 ≤ en g T; omega); rw [show entS (T.rows.getD g []) T.col T.col.length = en g T from rfl, hee] at eh; simp only [Int.toNat_natCast] at eh; refine ⟨en g T, .inr ⟨e, hee, by omega, ?_, fun i hi => ?_⟩, .inr ⟨by omega, hl, rfl⟩⟩
    · rw [← hV.num g hgT e (by omega)]; exact eh.1
    · rw [← hV.num i (by have := hV.rm; omega) e (by omega)]; have := levS_none hl i (by rw [hV.basl]; exact hi); rw [hee] at this; simpa using this
theorem it_ok (hS : Sys A V M q) {g : Nat} (hg : m ≤ g) : ∀ (n : Nat) (x : Tv × List Nat), Good A V M m q W x.1 x.2 → g < x.1.rows.length → (∀ j, j < n → ¬ stop g (it g j x).1) → Good A V M m q W (it g n x).1 (it g n x).2 ∧ (it g n x).1.rows.length = x.1.rows.length ∧ ∀ j, m ≤ j → (it g n x).2.getD j 0 = x.2.getD j 0
  | 0, x, h, _, _ => ⟨h, rfl, fun _ _ => rfl⟩
  | n + 1, x, h, hgT, hn => by
    have h0 := hn 0 (by omega)
    have h1 := h.pvt hS hg hgT h0
    obtain ⟨a1, a2, a3⟩ := it_ok hS hg n (nx g x) h1 (by rw [nx_rows]; exact hgT) (fun j hj => hn (j + 1) (by omega))
    refine ⟨a1, by rw [← nx_rows g x]; exact a2, fun j hj => ?_⟩
    show (it g n (nx g x)).2.getD j 0 = _
    rw [a3 j hj]
    show (x.2.set _ _).getD j 0 = _
    have b2 := lv_bd g x.1
    have hV := h.view
    have hlen := hV.bas.len
    have hrm := hV.rm
    have hrM := hV.rM
    rw [hV.basl] at b2
    have hl0 : 0 ≤ lv g x.1 := by
      have h0' : ¬ stop g x.1 := h0; unfold stop at h0'; omega
    rw [getD_set' (by omega), if_neg (by omega)]
theorem it_run {g : Nat} (hS : Sys A V M q) (hg : m ≤ g) {s : Int} : ∀ (n : Nat) (x : Tv × List Nat), Good A V M m q W x.1 x.2 → g < x.1.rows.length → (∀ j, j < n → ¬ stop g (it g j x).1) →
    ((en g (it g n x).1 < 0 ∧ s = -1) ∨ (0 ≤ en g (it g n x).1 ∧ lv g (it g n x).1 < 0 ∧ s = en g (it g n x).1)) → RunOk g (it g n x).1 s n x.1
  | 0, x, h, _, _, hs => ⟨h.view.gd hS h.hl h.few h.thin, rfl, hs⟩
  | n + 1, x, h, hgT, hn, hs => by
    have h0 : ¬ stop g x.1 := hn 0 (by omega)
    have h1 := h.pvt hS hg hgT h0
    refine ⟨h.view.gd hS h.hl h.few h.thin, ?_, ?_, it_run hS hg n (nx g x) h1 (by rw [nx_rows]; exact hgT) (fun j hj => hn (j + 1) (by omega)) hs⟩
    · have : 0 ≤ en g x.1 := by unfold stop at h0; omega
      exact this
    · have : 0 ≤ lv g x.1 := by unfold stop at h0; omega
      exact this
theorem Good.ends (h : Good A V M m q W T bs) (hS : Sys A V M q) {g : Nat} (hg : m ≤ g) (hgT : g < T.rows.length) (hN : ∀ d ∈ bs, d < W + M + 2) :
    ∃ k T' s bs', RunOk g T' s k T ∧ Good A V M m q W T' bs' ∧ EndP A m g W T' bs' s ∧ T'.rows.length = T.rows.length ∧ ∀ j, m ≤ j → bs'.getD j 0 = bs.getD j 0 := by
  have hex : ∃ k, stop g (it g k (T, bs)).1 := by
    refine Classical.byContradiction fun hno => ?_
    have hn : ∀ k, ¬ stop g (it g k (T, bs)).1 := fun k hk => hno ⟨k, hk⟩
    have hG := fun k => it_ok (W := W) hS hg k (T, bs) h hgT (fun j _ => hn j)
    have R : Run A V M m g q (fun v => v < W) (W + M + 2) (fun k => (it g k (T, bs)).2) (fun k => (lv g (it g k (T, bs)).1).toNat) (fun k => ((it g k (T, bs)).1.col.getD (en g (it g k (T, bs)).1).toNat 0).toNat) :=
      ⟨h.view.bas, h.feas, hS.hq, hS.hA, hg, by have := h.view.rM; omega, fun k => (hG k).1.step hS hg (by rw [(hG k).2.1]; exact hgT) (hn k), fun k => by show (it g (k + 1) (T, bs)).2 = _; rw [it_succ]; rfl, hN, fun v hv => by omega⟩
    exact R.no
  obtain ⟨k, hk, hkl⟩ := least hex; obtain ⟨a1, a2, a3⟩ := it_ok (W := W) hS hg k (T, bs) h hgT hkl; obtain ⟨s, hs1, hs2⟩ := a1.endp hg (by rw [a2]; exact hgT) hk; exact ⟨k, _, s, _, it_run hS hg k (T, bs) h hgT hkl hs2, a1, hs1, a2, a3⟩
end
def colA (n : Nat) (rs : List Rw) (c : List Int) (v : Nat) : Vec := fun j =>
  if v < n then (if j < rs.length then (rs.getD j rw0).cs.getD v 0 else if j = rs.length then -(c.getD v 0) else 0)
  else if v < n + rs.length then (if j = v - n then 1 else 0)
  else if v = n + rs.length then (if j < rs.length then -1 else if j = rs.length + 1 then 1 else 0)
  else if v = n + rs.length + 1 then (if j = rs.length then 1 else 0)
  else if v = n + rs.length + 2 then (if j = rs.length + 1 then 1 else 0) else 0
def rhsQ (rs : List Rw) : Vec := fun j => if j < rs.length then (rs.getD j rw0).b else 0
def bs0 (n m : Nat) : List Nat := (List.range m).map (fun i => n + i) ++ [n + m + 1, n + m + 2]
def Vok (M : Nat) (x : Vec) : Prop := ∀ j, M ≤ j → x j = 0
theorem bs0_len (n m : Nat) : (bs0 n m).length = m + 2 := by simp [bs0]
theorem bs0_lo {n m i : Nat} (h : i < m) : (bs0 n m).getD i 0 = n + i := by
  simp [bs0, List.getD_eq_getElem?_getD, List.getElem?_append_left, h]
theorem bs0_z (n m : Nat) : (bs0 n m).getD m 0 = n + m + 1 := by simp [bs0, List.getD_eq_getElem?_getD]
theorem bs0_w (n m : Nat) : (bs0 n m).getD (m + 1) 0 = n + m + 2 := by simp [bs0, List.getD_eq_getElem?_getD]
section
variable {n : Nat} {rs : List Rw} {c : List Int}
theorem Yv {v : Nat} (h : v < n) (j : Nat) : colA n rs c v j = if j < rs.length then (rs.getD j rw0).cs.getD v 0 else if j = rs.length then -(c.getD v 0) else 0 := by
  unfold colA; rw [if_pos h]
theorem Z3 {i : Nat} (h : i < rs.length) : colA n rs c (n + i) = unit i := by
  funext j
  unfold colA Go.Det.unit; rw [if_neg (by omega), if_pos (by omega)]
  congr 1
  exact propext ⟨fun h => by omega, fun h => by omega⟩
theorem colA_art : colA n rs c (n + rs.length) = fun j => if j < rs.length then -1 else if j = rs.length + 1 then 1 else 0 := by
  funext j
  unfold colA; rw [if_neg (by omega), if_neg (by omega), if_pos J]
theorem colA_z : colA n rs c (n + rs.length + 1) = unit rs.length := by
  funext j
  unfold colA Go.Det.unit; rw [if_neg (by omega), if_neg (by omega), if_neg (by omega), if_pos J]
theorem colA_w : colA n rs c (n + rs.length + 2) = unit (rs.length + 1) := by
  funext j
  unfold colA Go.Det.unit; rw [if_neg (by omega), if_neg (by omega), if_neg (by omega), if_neg (by omega), if_pos J]
theorem bs0_unit {i : Nat} (h : i < rs.length + 2) : colA n rs c ((bs0 n rs.length).getD i 0) = unit i := by
  by_cases h1 : i < rs.length
  · rw [bs0_lo h1, Z3 h1]
  · by_cases h2 : i = rs.length
    · subst h2; rw [bs0_z, colA_z]
    · have : i = rs.length + 1 := by omega
      subst this; rw [bs0_w, colA_w]
theorem Y5 (v : Nat) : Vok (rs.length + 2) (colA n rs c v) := fun j hj => by
  unfold colA
  split
  · rw [if_neg (by omega), if_neg (by omega)]
  · split
    · rw [if_neg (by omega)]
    · split
      · rw [if_neg (by omega), if_neg (by omega)]
      · split
        · rw [if_neg (by omega)]
        · split
          · rw [if_neg (by omega)]
          · rfl
theorem Yo : Vok (rs.length + 2) (rhsQ rs) := fun j hj => by unfold rhsQ; rw [if_neg (by omega)]
theorem bs0_bas : Bas (colA n rs c) (Vok (rs.length + 2)) (rs.length + 2) (bs0 n rs.length) ∧ dD (colA n rs c) (bs0 n rs.length) = 1 :=
  Bas.start (bs0_len n rs.length) (fun i hi => bs0_unit hi) (fun x hx => hx)
theorem bs0_tt {i : Nat} (hi : i < rs.length + 2) {x : Vec} (hx : Vok (rs.length + 2) x) : tt (colA n rs c) (bs0 n rs.length) i x = x i := by
  unfold tt; rw [bs0_bas.2, dT_unit (bs0_len n rs.length) (fun i hi => bs0_unit hi) hx hi]; show 1 * _ = _; omega
structure LpOk (n : Nat) (rs : List Rw) (c : List Int) : Prop where
  nn : n ≤ 16
  mm : rs.length ≤ 64
  cl : c.length ≤ n
  cb : ∀ i, (c.getD i 0).natAbs ≤ 1048576
  rl : ∀ r ∈ rs, r.cs.length ≤ n
  rb : ∀ r ∈ rs, ∀ i, (r.cs.getD i 0).natAbs ≤ 1048576
  bb : ∀ r ∈ rs, r.b.natAbs ≤ 4503599627370496
theorem rs_mem {j : Nat} (h : j < rs.length) : rs.getD j rw0 ∈ rs := Xj h
theorem colA_bd (h : LpOk n rs c) (v j : Nat) : (colA n rs c v j).natAbs ≤ 1048576 := by
  unfold colA; split
  · split
    · rename_i h1 h2; exact h.rb _ (rs_mem h2) v
    · split
      · rw [Int.natAbs_neg]; exact h.cb v
      · decide
  · repeat' split
    all_goals decide
theorem fact_mono : ∀ {a b : Nat}, a ≤ b → fact a ≤ fact b := fun {a b} h => by
  induction b with
  | zero => rw [show a = 0 by omega]; exact Nat.le_refl _
  | succ b ih =>
    rcases Nat.lt_or_ge a (b + 1) with h1 | h1
    · refine Nat.le_trans (ih (by omega)) ?_
      show fact b ≤ (b + 1) * fact b
      exact Nat.le_mul_of_pos_left _ (by omega)
    · rw [show a = b + 1 by omega]; exact Nat.le_refl _
theorem big_bd {M : Nat} (h : M ≤ 66) : fact M * 1048576 ^ M ≤ fact 66 * 1048576 ^ 66 := Nat.mul_le_mul (fact_mono h) (Nat.pow_le_pow_right (by decide) h)
theorem dt_A {l : List Vec} (h : LpOk n rs c) (hl : l.length = rs.length + 2) (hA : ∀ x ∈ l, ∀ i, (x i).natAbs ≤ 1048576) : (dt l).natAbs ≤ fact 66 * 1048576 ^ 66 := by
  have h1 := dt_bd l hA; rw [hl] at h1; exact Nat.le_trans h1 (big_bd (by have := h.mm; omega))
theorem mem_set_or {l : List Vec} {i : Nat} {y x : Vec} (h : x ∈ l.set i y) : x ∈ l ∨ x = y := List.mem_or_eq_of_mem_set h
theorem cols_bd (h : LpOk n rs c) {bs : List Nat} {x : Vec} (hx : x ∈ cols (colA n rs c) bs) (i : Nat) : (x i).natAbs ≤ 1048576 := by
  obtain ⟨v, _, rfl⟩ := List.mem_map.1 hx; exact colA_bd h v i
theorem sm_natAbs {f : Nat → Int} {K : Nat} : ∀ {M : Nat}, (∀ k, k < M → (f k).natAbs ≤ K) → (sm f M).natAbs ≤ M * K
  | 0, _ => by simp [sm]
  | M + 1, h => by
    simp only [sm]
    have h1 := sm_natAbs (M := M) fun k hk => h k (by omega)
    have h2 := h M (by omega)
    rw [Nat.add_mul, Nat.one_mul]
    omega
theorem lp_sys (h : LpOk n rs c) : Sys (colA n rs c) (Vok (rs.length + 2)) (rs.length + 2) (rhsQ rs) := by
  refine ⟨Yo, Y5, fun bs i x hl hi hx hx2 => ?_, fun bs hl => ?_⟩
  · rcases hx2 with rfl | ⟨v, rfl⟩
    · have e : rhsQ rs = comb (rhsQ rs) unit (rs.length + 2) := by
        funext j
        unfold comb; by_cases hj : j < rs.length + 2
        · rw [Yp hj fun k _ hk => by simp [Go.Det.unit, Ne.symm hk]]; simp [Go.Det.unit]
        · rw [Yo j (by omega), ZK fun k hk => by rw [show Go.Det.unit k j = 0 from if_neg (by omega), Int.mul_zero]]
      have hlc : i < (cols (colA n rs c) bs).length := by rw [Zu]; omega
      have e2 : dT (colA n rs c) bs i (rhsQ rs) = sm (fun k => rhsQ rs k * dt ((cols (colA n rs c) bs).set i (unit k))) (rs.length + 2) := by
        unfold dT
        conv => lhs; rw [e]
        exact Yu hlc _ _ _
      rw [e2]
      refine Nat.lt_of_le_of_lt (sm_natAbs (K := 4503599627370496 * (fact 66 * 1048576 ^ 66)) fun k _ => ?_) ?_
      · rw [Int.natAbs_mul]
        refine Nat.mul_le_mul ?_ (dt_A h (by rw [List.length_set, Zu]; exact hl) fun x hx i => ?_)
        · unfold rhsQ; split
          · rename_i h2; exact h.bb _ (rs_mem h2)
          · decide
        · rcases mem_set_or hx with h3 | h3
          · exact cols_bd h h3 i
          · rw [h3]; unfold Go.Det.unit; split <;> decide
      · refine Nat.lt_of_le_of_lt (Nat.mul_le_mul_right _ (show rs.length + 2 ≤ 66 by have := h.mm; omega)) ?_
        decide
    · refine Nat.lt_of_le_of_lt (dt_A h (by rw [List.length_set, Zu]; exact hl) fun x hx i => ?_) ?_
      · rcases mem_set_or hx with h3 | h3
        · exact cols_bd h h3 i
        · rw [h3]; exact colA_bd h v i
      · decide
  · refine Nat.lt_of_le_of_lt (dt_A h (by rw [Zu]; exact hl) fun x hx i => cols_bd h hx i) ?_
    decide
structure Beg (n : Nat) (rs : List Rw) (c : List Int) (T : Tv) : Prop where
  rows : T.rows = (rs.map fun r => lnOf n r.cs r.b) ++ [lnOf n (c.map fun x => -x) 0]
  bas : T.bas = rng n rs.length
  col : T.col = rng 0 n
  den : T.den = 1
  hl : T.hl.length = T.rows.length
theorem lnOf_len (n : Nat) (cs : List Int) (b : Int) : (lnOf n cs b).length = n + 1 := by simp [lnOf]
theorem lnOf_at {n : Nat} {cs : List Int} {b : Int} {j : Nat} (h : j < n) : (lnOf n cs b).getD j 0 = cs.getD j 0 := by
  simp [lnOf, List.getD_eq_getElem?_getD, List.getElem?_append_left, h]
theorem lnOf_last (n : Nat) (cs : List Int) (b : Int) : (lnOf n cs b).getD n 0 = b := by simp [lnOf, List.getD_eq_getElem?_getD]
theorem rng_at {a n j : Nat} (h : j < n) : (rng a n).getD j 0 = ((a + j : Nat) : Int) := by simp [rng, List.getD_eq_getElem?_getD, h]
theorem rng_nn (a n j : Nat) : 0 ≤ (rng a n).getD j 0 := by
  rcases Nat.lt_or_ge j n with h | h
  · rw [rng_at h]; omega
  · rw [getD_ge (by rw [X8]; exact h)]; exact Int.le_refl _
theorem Beg.len {T : Tv} (h : Beg n rs c T) : T.rows.length = rs.length + 1 := by rw [h.rows]; simp
theorem Beg.lo {T : Tv} (h : Beg n rs c T) {i : Nat} (hi : i < rs.length) : T.rows.getD i [] = lnOf n (rs.getD i rw0).cs (rs.getD i rw0).b := by
  rw [h.rows]; simp [List.getD_eq_getElem?_getD, List.getElem?_append_left, hi]
theorem Beg.hi {T : Tv} (h : Beg n rs c T) : T.rows.getD rs.length [] = lnOf n (c.map fun x => -x) 0 := by
  rw [h.rows]; simp [List.getD_eq_getElem?_getD]
theorem neg_getD (c : List Int) (j : Nat) : (c.map fun x => -x).getD j 0 = -(c.getD j 0) := by
  simp only [List.getD_eq_getElem?_getD, List.getElem?_map]
  cases c[j]? <;> simp
theorem Beg.view {T : Tv} (h : Beg n rs c T) : View (colA n rs c) (Vok (rs.length + 2)) (rs.length + 2) rs.length (rhsQ rs) T (bs0 n rs.length) := by
  have hl := h.len
  have hcl : T.col.length = n := by rw [h.col, X8]
  refine ⟨bs0_bas.1, ?_, fun i hi j hj => ?_, fun i hi => ?_, by rw [h.bas, X8], fun i hi => ?_, fun j => by rw [h.col]; exact rng_nn _ _ _, fun i hi => ?_, by omega, by omega⟩
  · rw [h.den]; unfold Go.Det.den; rw [bs0_bas.2]; rfl
  · rw [hcl] at hj; rw [bs0_tt (by omega) (Y5 _), h.col, rng_at hj, Nat.zero_add, Int.toNat_natCast, Yv hj]; unfold Tv.at; by_cases h1 : i < rs.length
    · rw [if_pos h1, h.lo h1, lnOf_at hj]
    · rw [if_neg h1, if_pos (by omega), show i = rs.length by omega, h.hi, lnOf_at hj, neg_getD]
  · rw [bs0_tt (by omega) Yo]; unfold Tv.at rhsQ; rw [hcl]; by_cases h1 : i < rs.length
    · rw [if_pos h1, h.lo h1, lnOf_last]
    · rw [if_neg h1, show i = rs.length by omega, h.hi, lnOf_last]
  · rw [h.bas, rng_at hi, bs0_lo hi]
  · by_cases h1 : i < rs.length
    · rw [h.lo h1, lnOf_len, hcl]
    · rw [show i = rs.length by omega, h.hi, lnOf_len, hcl]
theorem insL_at {m q k : Nat} {l : List Int} (hq : l.length = q + 1) {j : Nat} : (insL m q k l).getD j 0 = if j < q then l.getD j 0 else if j = q then insX m k else l.getD (j - 1) 0 := by
  unfold insL; simp only [List.getD_eq_getElem?_getD]; by_cases h1 : j < q
  · rw [if_pos h1, List.getElem?_append_left (by rw [List.length_take]; omega), List.getElem?_take, if_pos h1]
  · rw [if_neg h1, List.getElem?_append_right (by rw [List.length_take]; omega), List.length_take, Nat.min_eq_left (by omega)]; by_cases h2 : j = q
    · rw [if_pos h2, h2, Nat.sub_self]; rfl
    · rw [if_neg h2]; obtain ⟨d, rfl⟩ : ∃ d, j = q + 1 + d := ⟨j - (q + 1), by omega⟩; rw [show q + 1 + d - q = d + 1 by omega, List.getElem?_cons_succ, List.getElem?_drop, show q + 1 + d - 1 = q + d by omega]
theorem Beg.ins {T : Tv} (h : Beg n rs c T) : View (colA n rs c) (Vok (rs.length + 2)) (rs.length + 2) rs.length (rhsQ rs) (insT T ((n + rs.length : Nat) : Int)) (bs0 n rs.length) := by
  have hl := h.len
  have hcl : T.col.length = n := by rw [h.col, X8]
  have hbl : T.bas.length = rs.length := by rw [h.bas, X8]
  have hrl : (insT T ((n + rs.length : Nat) : Int)).rows.length = rs.length + 2 := by show (insP _ _ _ _).length = _; rw [insP_len]; simp [hl]
  have hil : (insT T ((n + rs.length : Nat) : Int)).col.length = n + 1 := by show (T.col ++ [_]).length = _; simp [hcl]
  have hr0 : ∀ i, i < rs.length + 2 → ((T.rows ++ [List.replicate (T.col.length + 1) (0 : Int)]).getD i []).length = n + 1 ∧ (T.rows ++ [List.replicate (T.col.length + 1) (0 : Int)]).getD i [] = if i < rs.length + 1 then T.rows.getD i [] else List.replicate (n + 1) 0 := fun i hi => by
    have e : (T.rows ++ [List.replicate (T.col.length + 1) (0 : Int)]).getD i [] = if i < rs.length + 1 then T.rows.getD i [] else List.replicate (n + 1) 0 := by
      by_cases h1 : i < rs.length + 1
      · rw [if_pos h1, List.getD_eq_getElem?_getD, List.getElem?_append_left (by omega), ← List.getD_eq_getElem?_getD]
      · rw [if_neg h1, show i = T.rows.length by omega]; simp [List.getD_eq_getElem?_getD, hcl]
    refine ⟨?_, e⟩; rw [e]; split
    · rw [h.view.row i (by omega), hcl]
    · simp
  have hrow : ∀ i, i < rs.length + 2 → (insT T ((n + rs.length : Nat) : Int)).rows.getD i [] = insL rs.length n i ((T.rows ++ [List.replicate (T.col.length + 1) (0 : Int)]).getD i []) := fun i hi => by
    show (insP _ _ _ _).getD i [] = _; unfold insP; rw [range_getD _ _ _ (by simp [hl]; omega), if_pos (by omega), hbl, hcl]
  have hcol : ∀ j, (insT T ((n + rs.length : Nat) : Int)).col.getD j 0 = if j < n then (j : Int) else if j = n then ((n + rs.length : Nat) : Int) else 0 := fun j => by
    show (T.col ++ [_]).getD j 0 = _; by_cases h1 : j < n
    · rw [if_pos h1, List.getD_eq_getElem?_getD, List.getElem?_append_left (by omega), ← List.getD_eq_getElem?_getD, h.col, rng_at h1, Nat.zero_add]
    · rw [if_neg h1]; by_cases h2 : j = n
      · rw [if_pos h2, h2, ← hcl]; simp [List.getD_eq_getElem?_getD]
      · rw [if_neg h2, getD_ge (by simp [hcl]; omega)]
  have hat : ∀ i, i < rs.length + 2 → ∀ j, (insT T ((n + rs.length : Nat) : Int)).at i j = if j < n then (if i < rs.length + 1 then T.at i j else 0) else if j = n then insX rs.length i else if j = n + 1 then (if i < rs.length + 1 then T.at i n else 0) else 0 := fun i hi j => by
    unfold Tv.at; rw [hrow i hi, insL_at (hr0 i hi).1, (hr0 i hi).2]; by_cases h1 : j < n
    · rw [if_pos h1, if_pos h1]; split
      · rfl
      · simp [List.getD_eq_getElem?_getD, List.getElem?_replicate]; split <;> rfl
    · rw [if_neg h1, if_neg h1]; by_cases h2 : j = n
      · rw [if_pos h2, if_pos h2]
      · rw [if_neg h2, if_neg h2]; by_cases h3 : j = n + 1
        · rw [if_pos h3, h3, Nat.add_sub_cancel]; split
          · rfl
          · simp [List.getD_eq_getElem?_getD, List.getElem?_replicate]
        · rw [if_neg h3]; split
          · rw [getD_ge (by rw [h.view.row i (by omega), hcl]; omega)]
          · rw [getD_ge (by simp; omega)]
  have hV := h.view; refine ⟨bs0_bas.1, ?_, fun i hi j hj => ?_, fun i hi => ?_, hbl, fun i hi => ?_, fun j => ?_, fun i hi => ?_, by omega, by omega⟩
  · show T.den = _; exact hV.den
  · rw [hrl] at hi; rw [hil] at hj; rw [bs0_tt hi (Y5 _), hat i hi j, hcol j]; by_cases h1 : j < n
    · rw [if_pos h1, if_pos h1, Int.toNat_natCast]; by_cases h2 : i < rs.length + 1
      · rw [if_pos h2]; have := hV.num i (by omega) j (by omega); rw [bs0_tt (by omega) (Y5 _), h.col, rng_at h1, Nat.zero_add, Int.toNat_natCast] at this; exact this
      · rw [if_neg h2, Yv h1, if_neg (by omega), if_neg (by omega)]
    · rw [if_neg h1, if_pos (by omega), if_neg h1, if_pos (by omega), Int.toNat_natCast, colA_art]; rfl
  · rw [hrl] at hi; rw [hil, bs0_tt hi Yo, hat i hi (n + 1), if_neg (by omega), if_neg (by omega), if_pos J]; by_cases h2 : i < rs.length + 1
    · rw [if_pos h2]; have := hV.rhs i (by omega); rw [bs0_tt (by omega) Yo, hcl] at this; exact this
    · rw [if_neg h2]; unfold rhsQ; rw [if_neg (by omega)]
  · show T.bas.getD i 0 = _; exact hV.basv i hi
  · rw [hcol j]; split
    · omega
    · split <;> omega
  · rw [hrl] at hi; rw [hrow i hi, insL_len (by rw [(hr0 i hi).1]; omega), (hr0 i hi).1, hil]
end
theorem wrS_none {T : Tv} : ∀ {i : Nat}, wrS T i < 0 → ∀ k, k < i → 0 ≤ T.at k T.col.length
  | 0, _, k, hk => by omega
  | i + 1, h, k, hk => by
    simp only [wrS] at h
    by_cases hc : T.at i T.col.length < 0 ∧ (wrS T i < 0 ∨ T.at i T.col.length + -(T.at (wrS T i).toNat T.col.length) < 0)
    · rw [if_pos hc] at h; omega
    · rw [if_neg hc] at h
      by_cases hki : k = i
      · subst hki
        by_cases h5 : T.at k T.col.length < 0
        · exact absurd ⟨h5, .inl h⟩ hc
        · omega
      · exact wrS_none h k (by omega)
theorem wrS_hit {T : Tv} : ∀ {i : Nat}, 0 ≤ wrS T i → T.at (wrS T i).toNat T.col.length < 0 ∧ ∀ k, k < i → T.at (wrS T i).toNat T.col.length ≤ T.at k T.col.length
  | 0, h => by simp [wrS] at h
  | i + 1, h => by
    simp only [wrS] at h ⊢
    by_cases hc : T.at i T.col.length < 0 ∧ (wrS T i < 0 ∨ T.at i T.col.length + -(T.at (wrS T i).toNat T.col.length) < 0)
    · rw [if_pos hc, Int.toNat_natCast]
      refine ⟨hc.1, fun k hk => ?_⟩
      by_cases hki : k = i
      · subst hki; exact Int.le_refl _
      · by_cases h2 : wrS T i < 0
        · have := wrS_none h2 k (by omega); omega
        · have h3 := (wrS_hit (T := T) (i := i) (by omega)).2 k (by omega)
          rcases hc.2 with h4 | h4 <;> omega
    · rw [if_neg hc] at h ⊢
      have ih := wrS_hit h
      refine ⟨ih.1, fun k hk => ?_⟩
      by_cases hki : k = i
      · subst hki
        by_cases h5 : T.at k T.col.length < 0
        · have : ¬ (T.at k T.col.length + -(T.at (wrS T k).toNat T.col.length) < 0) := fun h6 => hc ⟨h5, .inr h6⟩
          omega
        · omega
      · exact ih.2 k (by omega)
theorem idxI_get {α : Type} {p : α → Bool} {xs : List α} (z : α) (h : 0 ≤ idxI p xs) : (idxI p xs).toNat < xs.length ∧ p (xs.getD (idxI p xs).toNat z) = true := by
  unfold idxI at h ⊢; by_cases ha : xs.any p = true
  · rw [if_pos ha, Int.toNat_natCast]; have h1 : xs.findIdx p < xs.length := List.findIdx_lt_length_of_exists (by simpa using ha); refine ⟨h1, ?_⟩; rw [List.getD_eq_getElem?_getD, List.getElem?_eq_getElem h1]; exact List.findIdx_getElem (w := h1)
  · rw [if_neg ha] at h; omega
theorem idxI_nn {α : Type} {p : α → Bool} {xs : List α} (z : α) {k : Nat} (hk : k < xs.length) (hp : p (xs.getD k z) = true) : 0 ≤ idxI p xs := by
  unfold idxI; rw [if_pos (List.any_eq_true.2 ⟨xs.getD k z, Xj hk, hp⟩)]; omega
structure Ph (n : Nat) (rs : List Rw) (c : List Int) (W : Nat) (T : Tv) (bs : List Nat) : Prop where
  good : Good (colA n rs c) (Vok (rs.length + 2)) (rs.length + 2) rs.length (rhsQ rs) W T bs
  z : bs.getD rs.length 0 = n + rs.length + 1
  w : bs.getD (rs.length + 1) 0 = n + rs.length + 2
section
variable {n : Nat} {rs : List Rw} {c : List Int} {W : Nat} {T : Tv} {bs : List Nat}
theorem Ph.bas (h : Ph n rs c W T bs) : Bas (colA n rs c) (Vok (rs.length + 2)) (rs.length + 2) bs := h.good.view.bas
theorem Ph.small (h : Ph n rs c W T bs) (hW : n + rs.length ≤ W) : ∀ d ∈ bs, d < W + (rs.length + 2) + 2 := fun d hd => by
  obtain ⟨i, hi, rfl⟩ := List.getElem_of_mem hd
  rw [h.bas.len] at hi
  have e : bs[i] = bs.getD i 0 := by rw [List.getD_eq_getElem?_getD, List.getElem?_eq_getElem]; rfl
  rw [e]
  by_cases h1 : i < rs.length
  · have := h.good.cov.bas i h1; omega
  · by_cases h2 : i = rs.length
    · rw [h2, h.z]; omega
    · rw [show i = rs.length + 1 by omega, h.w]; omega
theorem Ph.comp (h : Ph n rs c W T bs) {x : Vec} (hx : Vok (rs.length + 2) x) (j : Nat) : Go.Det.den (colA n rs c) bs * x j = sm (fun k => tt (colA n rs c) bs k x * colA n rs c (bs.getD k 0) j) (rs.length + 2) := by
  have h1 := h.bas.cr x hx j; unfold Go.Det.den tt
  have e : sm (fun k => (dD (colA n rs c) bs).sign * dT (colA n rs c) bs k x * colA n rs c (bs.getD k 0) j) (rs.length + 2) = (dD (colA n rs c) bs).sign * sm (fun k => dT (colA n rs c) bs k x * colA n rs c (bs.getD k 0) j) (rs.length + 2) := by
    rw [← sm_mul]
    exact Zy fun k _ => by grind
  rw [e, ← h1]; grind
theorem colA_art_w : colA n rs c (n + rs.length) (rs.length + 1) = 1 := by
  rw [colA_art]; show (if rs.length + 1 < rs.length then (-1 : Int) else if rs.length + 1 = rs.length + 1 then 1 else 0) = 1; rw [if_neg (by omega), if_pos J]
theorem Ph.w_eq (h : Ph n rs c W T bs) (hW : W ≤ n + rs.length + 1) {x : Vec} (hx : Vok (rs.length + 2) x) :
    Go.Det.den (colA n rs c) bs * x (rs.length + 1) = tt (colA n rs c) bs (rs.length + 1) x + sm (fun k => if bs.getD k 0 = n + rs.length then tt (colA n rs c) bs k x else 0) rs.length := by
  rw [h.comp hx]; simp only [sm]; rw [h.z, h.w, colA_z, colA_w]
  have e : sm (fun k => tt (colA n rs c) bs k x * colA n rs c (bs.getD k 0) (rs.length + 1)) rs.length = sm (fun k => if bs.getD k 0 = n + rs.length then tt (colA n rs c) bs k x else 0) rs.length := Zy fun k hk => by
    have hb := h.good.cov.bas k hk; by_cases h1 : bs.getD k 0 = n + rs.length
    · rw [if_pos h1, h1, colA_art_w, Int.mul_one]
    · rw [if_neg h1]
      have : colA n rs c (bs.getD k 0) (rs.length + 1) = 0 := by
        by_cases h2 : bs.getD k 0 < n
        · rw [Yv h2, if_neg (by omega), if_neg (by omega)]
        · obtain ⟨i, hi⟩ : ∃ i, bs.getD k 0 = n + i := ⟨bs.getD k 0 - n, by omega⟩; rw [hi, Z3 (by omega)]; exact if_neg (by omega)
      rw [this, Int.mul_zero]
  rw [e]; have e1 : Go.Det.unit rs.length (rs.length + 1) = 0 := if_neg (by omega); have e2 : Go.Det.unit (rs.length + 1) (rs.length + 1) = 1 := if_pos J; rw [e1, e2]; omega
theorem sm_nonneg {f : Nat → Int} : ∀ {m : Nat}, (∀ k, k < m → 0 ≤ f k) → 0 ≤ sm f m
  | 0, _ => Int.le_refl _
  | m + 1, h => by simp only [sm]; have := sm_nonneg (m := m) fun k hk => h k (by omega); have := h m (by omega); omega
theorem sm_zero_of {f : Nat → Int} : ∀ {m : Nat}, (∀ k, k < m → 0 ≤ f k) → sm f m ≤ 0 → ∀ k, k < m → f k = 0
  | 0, _, _, k, hk => by omega
  | m + 1, h, hs, k, hk => by
    simp only [sm] at hs
    have h1 := sm_nonneg (m := m) fun k hk => h k (by omega)
    have h2 := h m (by omega)
    by_cases e : k = m
    · subst e; omega
    · exact sm_zero_of (m := m) (fun k hk => h k (by omega)) (by omega) k (by omega)
theorem Beg.ph (h : Beg n rs c T) (hL : LpOk n rs c) (hw : wrS T rs.length < 0) : Ph n rs c (n + rs.length) T (bs0 n rs.length) := by
  have hV := h.view; have hl := h.len
  have hcl : T.col.length = n := by rw [h.col, X8]
  have hn := hL.nn; have hm := hL.mm; refine ⟨⟨hV, ⟨fun v hv => ?_, fun j hj => ?_, fun i hi => ?_, fun j i hj hi => ?_, fun j k hj hk hjk => ?_⟩, fun i hi => ?_, h.hl, by omega, by omega⟩, bs0_z n rs.length, bs0_w n rs.length⟩
  · by_cases h1 : v < n
    · exact .inr ⟨v, by omega, by rw [h.col, rng_at h1, Nat.zero_add]⟩
    · exact .inl ⟨v - n, by omega, by rw [bs0_lo (by omega)]; omega⟩
  · rw [hcl] at hj; rw [h.col, rng_at hj]; omega
  · rw [bs0_lo hi]; omega
  · rw [hcl] at hj; rw [h.col, rng_at hj, bs0_lo hi]; omega
  · rw [hcl] at hj hk; rw [h.col, rng_at hj, rng_at hk]; omega
  · rw [← hV.rhs i (by omega)]; exact wrS_none hw i hi
theorem Beg.ph1 (h : Beg n rs c T) (hL : LpOk n rs c) (hw : 0 ≤ wrS T rs.length) :
    Ph n rs c (n + rs.length + 1) (pvt (insT T ((n + rs.length : Nat) : Int)) (wrS T rs.length).toNat T.col.length) ((bs0 n rs.length).set (wrS T rs.length).toNat (n + rs.length)) ∧ Gd (insT T ((n + rs.length : Nat) : Int)) := by
  have hV := h.ins; have hV0 := h.view; have hS := lp_sys hL; have hl := h.len
  have hcl : T.col.length = n := by rw [h.col, X8]
  have hbl : T.bas.length = rs.length := by rw [h.bas, X8]
  have hn := hL.nn; have hm := hL.mm; have hwb := wrS_bd T rs.length; have hwh := wrS_hit hw; obtain ⟨w, hww⟩ : ∃ w : Nat, wrS T rs.length = w := ⟨(wrS T rs.length).toNat, by omega⟩; rw [hww] at hwb hwh ⊢; simp only [Int.toNat_natCast] at hwh ⊢
  have hrl : (insT T ((n + rs.length : Nat) : Int)).rows.length = rs.length + 2 := by show (insP _ _ _ _).length = _; rw [insP_len]; simp [hl]
  have hil : (insT T ((n + rs.length : Nat) : Int)).col.length = n + 1 := by show (T.col ++ [_]).length = _; simp [hcl]
  have hcol : ∀ j, (insT T ((n + rs.length : Nat) : Int)).col.getD j 0 = if j < n then (j : Int) else if j = n then ((n + rs.length : Nat) : Int) else 0 := fun j => by
    show (T.col ++ [_]).getD j 0 = _; by_cases h1 : j < n
    · rw [if_pos h1, List.getD_eq_getElem?_getD, List.getElem?_append_left (by omega), ← List.getD_eq_getElem?_getD, h.col, rng_at h1, Nat.zero_add]
    · rw [if_neg h1]; by_cases h2 : j = n
      · rw [if_pos h2, h2, ← hcl]; simp [List.getD_eq_getElem?_getD]
      · rw [if_neg h2, getD_ge (by simp [hcl]; omega)]
  have hhl : (insT T ((n + rs.length : Nat) : Int)).hl.length = rs.length + 2 := by show (T.hl ++ [default]).length = _; rw [List.length_append, h.hl, hl]; rfl
  have hart : ((insT T ((n + rs.length : Nat) : Int)).col.getD n 0).toNat = n + rs.length := by rw [hcol, if_neg (by omega), if_pos J, Int.toNat_natCast]
  have hcov : Cov (n + rs.length + 1) rs.length (insT T ((n + rs.length : Nat) : Int)) (bs0 n rs.length) := by
    refine ⟨fun v hv => ?_, fun j hj => ?_, fun i hi => ?_, fun j i hj hi => ?_, fun j k hj hk hjk => ?_⟩
    · by_cases h1 : v < n
      · exact .inr ⟨v, by omega, by rw [hcol, if_pos h1]⟩
      · by_cases h2 : v = n + rs.length
        · exact .inr ⟨n, by omega, by rw [hcol, if_neg (by omega), if_pos J, h2]⟩
        · exact .inl ⟨v - n, by omega, by rw [bs0_lo (by omega)]; omega⟩
    · rw [hcol]; split
      · omega
      · split <;> omega
    · rw [bs0_lo hi]; omega
    · rw [hil] at hj; rw [hcol, bs0_lo hi]; by_cases h1 : j < n
      · rw [if_pos h1]; omega
      · rw [if_neg h1, if_pos (by omega)]; omega
    · rw [hil] at hj hk; rw [hcol, hcol]; by_cases h1 : j < n
      · rw [if_pos h1]; by_cases h2 : k < n
        · rw [if_pos h2]; omega
        · rw [if_neg h2, if_pos (by omega)]; omega
      · rw [if_neg h1, if_pos (by omega)]; by_cases h2 : k < n
        · rw [if_pos h2]; omega
        · omega
  have a1 : ∀ i, i < rs.length → (insT T ((n + rs.length : Nat) : Int)).at i n = -1 := fun i hi => by
    rw [hV.num i (by omega) n (by omega), hart, bs0_tt (by omega) (Y5 _), colA_art]; simp only; rw [if_pos hi]
  have a2 : ∀ i, i < rs.length → (insT T ((n + rs.length : Nat) : Int)).at i (n + 1) = T.at i n := fun i hi => by
    have e1 := hV.rhs i (by omega); rw [hil] at e1; have e2 := hV0.rhs i (by omega); rw [hcl] at e2; rw [e1, e2]
  have hp : (insT T ((n + rs.length : Nat) : Int)).at w n ≠ 0 := by rw [a1 w (by omega)]; decide
  have hPV := hV.pvt hS.hq hS.hA (r := w) (s := n) (by omega) (by omega) hp; have hPC := hcov.pvt hV (r := w) (s := n) (by omega) (by omega); rw [hart] at hPV hPC; rw [hcl] at hwh ⊢; refine ⟨⟨⟨hPV, hPC, fun i hi => ?_, ?_, by rw [Zk, hrl]; omega, by rw [Z8, hil]; omega⟩, ?_, ?_⟩, hV.gd hS (by rw [hhl, hrl]) (by omega) (by omega)⟩
  · rw [← hPV.rhs i (by rw [Zk, hrl]; omega), Z8, hil]; rw [pvt_at (by omega) (by omega) (hV.row i (by omega)) (by omega) (by omega), if_neg (show ¬ n + 1 = n by omega), if_neg (show ¬ n + 1 = n by omega)]; rw [a1 w (by omega), a1 i hi, a2 i hi, a2 w (by omega), if_pos (show (-1 : Int) < 0 by decide)]
    have hden : (insT T ((n + rs.length : Nat) : Int)).den = 1 := by show T.den = 1; exact h.den
    rw [hden]; have := hwh.2 i hi; by_cases h1 : i = w
    · rw [if_pos h1]; omega
    · rw [if_neg h1, Int.tdiv_one]; omega
  · rw [Zk, hrl]; exact hhl
  · rw [getD_set' (by rw [bs0_len]; omega), if_neg (by omega)]; exact bs0_z n rs.length
  · rw [getD_set' (by rw [bs0_len]; omega), if_neg (by omega)]; exact bs0_w n rs.length
structure End1 (n : Nat) (rs : List Rw) (c : List Int) (T E : Tv) (bs : List Nat) : Prop where
  ph : Ph n rs c (n + rs.length + 1) E bs
  cover : ∀ v, v < n + rs.length + 1 → 0 ≤ tt (colA n rs c) bs (rs.length + 1) (colA n rs c v)
  rows : E.rows.length = rs.length + 2
  col : E.col.length = n + 1
theorem Beg.phase1 (h : Beg n rs c T) (hL : LpOk n rs c) (hw : 0 ≤ wrS T rs.length) :
    ∃ E bs s k, RunOk (rs.length + 1) E s k (pvt (insT T ((n + rs.length : Nat) : Int)) (wrS T rs.length).toNat T.col.length) ∧ End1 n rs c T E bs := by
  have hP := (h.ph1 hL hw).1; have hl := h.len
  have hcl : T.col.length = n := by rw [h.col, X8]
  have hrl : (pvt (insT T ((n + rs.length : Nat) : Int)) (wrS T rs.length).toNat T.col.length).rows.length = rs.length + 2 := by
    rw [Zk]; show (insP _ _ _ _).length = _; rw [insP_len]; simp [hl]
  have hil : (pvt (insT T ((n + rs.length : Nat) : Int)) (wrS T rs.length).toNat T.col.length).col.length = n + 1 := by
    rw [Z8]; show (T.col ++ [_]).length = _; simp [hcl]
  obtain ⟨k, E, s, bs, hR, hG, hE, hr, hj⟩ := hP.good.ends (lp_sys hL) (g := rs.length + 1) (by omega) (by rw [hrl]; omega) (hP.small (by omega)); have hl2 := hR.lens; have hPh : Ph n rs c (n + rs.length + 1) E bs := ⟨hG, by rw [hj _ (Nat.le_refl _)]; exact hP.z, by rw [hj _ (by omega)]; exact hP.w⟩; refine ⟨E, bs, s, k, hR, hPh, ?_, by rw [hl2.1, hrl], by rw [hl2.2.2, hil]⟩; rcases hE with ⟨_, h1⟩ | ⟨e, _, he, h1, h2⟩
  · exact h1
  · exfalso; have hq := hPh.w_eq (Nat.le_refl _) (Y5 (n := n) (rs := rs) (c := c) (E.col.getD e 0).toNat); have hd := den_pos hPh.bas.ne; have hlt := hG.cov.col e he; have hnn := hG.view.colv e
    have hx : 0 ≤ colA n rs c (E.col.getD e 0).toNat (rs.length + 1) := by
      by_cases h3 : (E.col.getD e 0).toNat < n
      · rw [Yv h3, if_neg (by omega), if_neg (by omega)]; exact Int.le_refl _
      · by_cases h4 : (E.col.getD e 0).toNat = n + rs.length
        · rw [h4, colA_art_w]; decide
        · obtain ⟨i, hi⟩ : ∃ i, (E.col.getD e 0).toNat = n + i := ⟨(E.col.getD e 0).toNat - n, by omega⟩; rw [hi, Z3 (by omega)]; show 0 ≤ Go.Det.unit i _
          unfold Go.Det.unit; split <;> decide
    have h5 := Int.mul_nonneg (Int.le_of_lt hd) hx
    have h6 : sm (fun k => if bs.getD k 0 = n + rs.length then tt (colA n rs c) bs k (colA n rs c (E.col.getD e 0).toNat) else 0) rs.length ≤ sm (fun _ => 0) rs.length := sm_le fun k hk => by
      split
      · exact h2 k hk
      · exact Int.le_refl _
    rw [ZK (f := fun _ => 0) fun _ _ => rfl] at h6; omega
end
theorem erase_getD {l : List Int} {c j : Nat} : (l.eraseIdx c).getD j 0 = if j < c then l.getD j 0 else l.getD (j + 1) 0 := by
  simp only [List.getD_eq_getElem?_getD, List.getElem?_eraseIdx]
  split <;> rfl
section
variable {n : Nat} {rs : List Rw} {c : List Int} {W : Nat} {T E : Tv} {bs : List Nat}
theorem Ph.row_ne (h : Ph n rs c (n + rs.length + 1) E bs) {r : Nat} (hr : r < rs.length) (hb : bs.getD r 0 = n + rs.length) : ∃ j, j < E.col.length ∧ E.at r j ≠ 0 := by
  refine Classical.byContradiction fun hno => ?_
  have hz : ∀ j, j < E.col.length → E.at r j = 0 := fun j hj => Classical.byContradiction fun h1 => hno ⟨j, hj, h1⟩
  have hV := h.good.view; have hB := h.bas
  have hrE : r < E.rows.length := by have := hV.rm; omega
  have hu : ∀ k, k < rs.length + 2 → tt (colA n rs c) bs r (Go.Det.unit k) = 0 := fun k hk => by
    by_cases h1 : k < rs.length
    · rw [← Z3 (n := n) (c := c) h1]; rcases h.good.cov.all (n + k) (by omega) with ⟨i, hi, he⟩ | ⟨j, hj, he⟩
      · rw [← he]; exact Zg hB.len (by omega) (by omega) (fun e => by rw [e, hb] at he; omega)
      · have := hV.num r hrE j hj; rw [hz j hj, he, Int.toNat_natCast] at this; exact this.symm
    · by_cases h2 : k = rs.length
      · rw [h2, ← colA_z (n := n) (c := c), ← h.z]; exact Zg hB.len (by omega) (by omega) (by omega)
      · rw [show k = rs.length + 1 by omega, ← colA_w (n := n) (c := c), ← h.w]; exact Zg hB.len (by omega) (by omega) (by omega)
  have e : colA n rs c (n + rs.length) = comb (colA n rs c (n + rs.length)) Go.Det.unit (rs.length + 2) := by
    funext j
    unfold comb; by_cases hj : j < rs.length + 2
    · rw [Yp hj fun k _ hk => by simp [Go.Det.unit, Ne.symm hk]]; simp [Go.Det.unit]
    · rw [Y5 _ j (by omega), ZK fun k hk => by rw [show Go.Det.unit k j = 0 from if_neg (by omega), Int.mul_zero]]
  have h3 : tt (colA n rs c) bs r (colA n rs c (n + rs.length)) = 0 := by
    have e2 : dT (colA n rs c) bs r (colA n rs c (n + rs.length)) = sm (fun k => colA n rs c (n + rs.length) k * dT (colA n rs c) bs r (Go.Det.unit k)) (rs.length + 2) := by
      unfold dT
      conv => lhs; rw [e]
      exact Yu (by rw [Zu, hB.len]; omega) _ _ _
    unfold tt; rw [e2, ← sm_mul]
    refine ZK fun k hk => ?_
    have := hu k hk; unfold tt at this
    have : (dD (colA n rs c) bs).sign * (colA n rs c (n + rs.length) k * dT (colA n rs c) bs r (Go.Det.unit k)) = colA n rs c (n + rs.length) k * ((dD (colA n rs c) bs).sign * dT (colA n rs c) bs r (Go.Det.unit k)) := by grind
    rw [this, ‹(dD (colA n rs c) bs).sign * dT (colA n rs c) bs r (Go.Det.unit k) = 0›, Int.mul_zero]
  rw [← hb, tt_own hB.len (by omega)] at h3; have := den_pos hB.ne; omega
theorem Ph.swap (h : Ph n rs c W T bs) (hL : LpOk n rs c) {r s : Nat} (hr : r < rs.length) (hs : s < T.col.length) (hp : T.at r s ≠ 0) (h0 : tt (colA n rs c) bs r (rhsQ rs) = 0) : Ph n rs c W (pvt T r s) (bs.set r (T.col.getD s 0).toNat) := by
  have hS := lp_sys hL; have hV := h.good.view; have hB := h.bas
  have hrT : r < T.rows.length := by have := hV.rm; omega
  have hp' := hp; rw [hV.num r hrT s hs] at hp'; have hd := den_pos hB.ne; refine ⟨⟨hV.pvt hS.hq hS.hA hr hs hp, h.good.cov.pvt hV hr hs, fun i hi => ?_, by rw [Zk]; exact h.good.hl, by rw [Zk]; exact h.good.few, by rw [Z8]; exact h.good.thin⟩, ?_, ?_⟩
  · have hsg := hB.gsgn hp'; by_cases hir : i = r
    · subst hir; unfold tt at h0 ⊢; rw [piv_r]; rcases Int.mul_eq_zero.1 h0 with h1 | h1
      · exact absurd h1 (by have := sgn_sq hB.ne; intro h2; rw [h2] at this; simp at this)
      · rw [h1, Int.mul_zero]; exact Int.le_refl _
    · have hg := hB.gen (s := (T.col.getD s 0).toNat) (show r < rs.length + 2 by omega) (show i < rs.length + 2 by omega) hir hS.hq; rw [h0, Int.zero_mul, Int.sub_zero] at hg; have hf := h.good.feas i hi
      have e : Go.Det.den (colA n rs c) bs * tt (colA n rs c) (bs.set r (T.col.getD s 0).toNat) i (rhsQ rs) = (tt (colA n rs c) bs r (colA n rs c (T.col.getD s 0).toNat)).natAbs * tt (colA n rs c) bs i (rhsQ rs) := by
        unfold tt at hg hsg ⊢; rcases hsg with ⟨h1, h2⟩ | ⟨h1, h2⟩
        · rw [h1, hg]; congr 1; omega
        · rw [h1, Int.neg_mul, Int.mul_neg, hg, ← Int.neg_mul]; congr 1; omega
      have h3 : 0 ≤ ((tt (colA n rs c) bs r (colA n rs c (T.col.getD s 0).toNat)).natAbs : Int) * tt (colA n rs c) bs i (rhsQ rs) := Int.mul_nonneg (by omega) hf; rw [← e] at h3; rcases (show tt (colA n rs c) (bs.set r (T.col.getD s 0).toNat) i (rhsQ rs) < 0 ∨ 0 ≤ tt (colA n rs c) (bs.set r (T.col.getD s 0).toNat) i (rhsQ rs) by omega) with h4 | h4
      · have := Int.mul_neg_of_pos_of_neg hd h4; omega
      · exact h4
  · rw [getD_set' (by rw [hB.len]; omega), if_neg (by omega)]; exact h.z
  · rw [getD_set' (by rw [hB.len]; omega), if_neg (by omega)]; exact h.w
theorem Ph.cut (h : Ph n rs c (n + rs.length + 1) T bs) (hrl : T.rows.length = rs.length + 2) (hna : ∀ i, i < rs.length → bs.getD i 0 ≠ n + rs.length) {cx : Nat} (hc : cx < T.col.length) (hce : T.col.getD cx 0 = ((n + rs.length : Nat) : Int)) :
    Ph n rs c (n + rs.length) { T with rows := delP cx (T.rows.take (rs.length + 1)) (rs.length + 1), col := T.col.eraseIdx cx, hl := T.hl.take (rs.length + 1) } bs := by
  have hV := h.good.view; have hC := h.good.cov
  have hcl : (T.col.eraseIdx cx).length = T.col.length - 1 := by rw [List.length_eraseIdx, if_pos hc]
  have htl : (T.rows.take (rs.length + 1)).length = rs.length + 1 := by rw [List.length_take]; omega
  have hrow : ∀ i, i < rs.length + 1 → (delP cx (T.rows.take (rs.length + 1)) (rs.length + 1)).getD i [] = (T.rows.getD i []).eraseIdx cx := fun i hi => by
    unfold delP; rw [range_getD _ _ _ (by omega), if_pos hi, List.getD_eq_getElem?_getD, List.getElem?_take, if_pos hi, ← List.getD_eq_getElem?_getD]
  have hdl : (delP cx (T.rows.take (rs.length + 1)) (rs.length + 1)).length = rs.length + 1 := by rw [delP_len, htl]
  have pl : ∀ j, (T.col.eraseIdx cx).getD j 0 = T.col.getD (if j < cx then j else j + 1) 0 := fun j => by rw [erase_getD]; split <;> rfl
  refine ⟨⟨⟨hV.bas, hV.den, fun i hi j hj => ?_, fun i hi => ?_, hV.basl, hV.basv, fun j => ?_, fun i hi => ?_, by show _ ≤ (delP _ _ _).length; omega, by show (delP _ _ _).length ≤ _; omega⟩, ⟨fun v hv => ?_, fun j hj => ?_, fun i hi => ?_, fun j i hj hi => ?_, fun j k hj hk hjk => ?_⟩, h.good.feas, ?_, by show (delP _ _ _).length ≤ _; have := h.good.few; omega, by show (T.col.eraseIdx cx).length ≤ _; have := h.good.thin; omega⟩, h.z, h.w⟩
  · show ((delP cx (T.rows.take (rs.length + 1)) (rs.length + 1)).getD i []).getD j 0 = tt _ _ _ (colA n rs c ((T.col.eraseIdx cx).getD j 0).toNat)
    have hi' : i < rs.length + 1 := by rw [← hdl]; exact hi
    have hj' : j < T.col.length - 1 := by rw [← hcl]; exact hj
    rw [hrow i hi', pl, erase_getD]; have := hV.num i (by omega) (if j < cx then j else j + 1) (by split <;> omega); rw [← this]; unfold Tv.at
    split <;> rfl
  · show ((delP cx (T.rows.take (rs.length + 1)) (rs.length + 1)).getD i []).getD (T.col.eraseIdx cx).length 0 = _
    have hi' : i < rs.length + 1 := by rw [← hdl]; exact hi
    rw [hrow i hi', hcl, erase_getD, if_neg (by omega), show T.col.length - 1 + 1 = T.col.length by omega]; exact hV.rhs i (by omega)
  · show 0 ≤ (T.col.eraseIdx cx).getD j 0; rw [pl]; exact hV.colv _
  · show ((delP cx (T.rows.take (rs.length + 1)) (rs.length + 1)).getD i []).length = (T.col.eraseIdx cx).length + 1
    have hi' : i < rs.length + 1 := by rw [← hdl]; exact hi
    have := hV.row i (by omega); rw [hrow i hi', hcl, List.length_eraseIdx, if_pos (by omega)]; omega
  · rcases hC.all v (by omega) with h1 | ⟨j, hj, he⟩
    · exact .inl h1
    · have hjc : j ≠ cx := fun e => by rw [e, hce] at he; omega
      by_cases h2 : j < cx
      · exact .inr ⟨j, by show j < (T.col.eraseIdx cx).length; omega, by show (T.col.eraseIdx cx).getD j 0 = _; rw [pl, if_pos h2]; exact he⟩
      · exact .inr ⟨j - 1, by show _ < (T.col.eraseIdx cx).length; omega, by show (T.col.eraseIdx cx).getD _ 0 = _; rw [pl, if_neg (by omega), show j - 1 + 1 = j by omega]; exact he⟩
  · have hj' : j < T.col.length - 1 := by rw [← hcl]; exact hj
    show (T.col.eraseIdx cx).getD j 0 < _; rw [pl]; have h1 := hC.col (if j < cx then j else j + 1) (by split <;> omega); have h2 := hC.inj (if j < cx then j else j + 1) cx (by split <;> omega) hc (by split <;> omega); rw [hce] at h2; omega
  · have h1 := hC.bas i hi; have h2 := hna i hi; omega
  · have hj' : j < T.col.length - 1 := by rw [← hcl]; exact hj
    show (T.col.eraseIdx cx).getD j 0 ≠ _; rw [pl]; exact hC.dis _ i (by split <;> omega) hi
  · have hj' : j < T.col.length - 1 := by rw [← hcl]; exact hj
    have hk' : k < T.col.length - 1 := by rw [← hcl]; exact hk
    show (T.col.eraseIdx cx).getD j 0 ≠ (T.col.eraseIdx cx).getD k 0; rw [pl, pl]; exact hC.inj _ _ (by split <;> omega) (by split <;> omega) (by split <;> split <;> omega)
  · show (T.hl.take (rs.length + 1)).length = (delP _ _ _).length; rw [hdl, List.length_take, h.good.hl]; omega
inductive Start (n : Nat) (rs : List Rw) (c : List Int) (T E : Tv) : Prop where
  | keep (hw : wrS T rs.length < 0) (h : Ph n rs c (n + rs.length) T (bs0 n rs.length)) (hc : T.col.length = n)
  | none (bs : List Nat) (hw : 0 ≤ wrS T rs.length) (h : End1 n rs c T E bs) (hv : tt (colA n rs c) bs (rs.length + 1) (rhsQ rs) < 0) (ha : E.at (rs.length + 1) (n + 1) < 0)
  | some (bs : List Nat) (hw : 0 ≤ wrS T rs.length) (ha : ¬ E.at (rs.length + 1) (n + 1) < 0) (h : Ph n rs c (n + rs.length) (stE3 E rs.length n ((n + rs.length : Nat) : Int)) bs) (hc : (stE3 E rs.length n ((n + rs.length : Nat) : Int)).col.length = n) (hr : (stE3 E rs.length n ((n + rs.length : Nat) : Int)).rows.length = rs.length + 1)
theorem Beg.start (h : Beg n rs c T) (hL : LpOk n rs c) : ∃ E, (0 ≤ wrS T rs.length → StartRun T ((n + rs.length : Nat) : Int) E) ∧ Start n rs c T E := by
  have hcl : T.col.length = n := by rw [h.col, X8]
  have hbl : T.bas.length = rs.length := by rw [h.bas, X8]
  by_cases hw : wrS T rs.length < 0
  · exact ⟨T, fun h1 => by omega, .keep hw (h.ph hL hw) hcl⟩
  have hw' : 0 ≤ wrS T rs.length := by omega
  obtain ⟨E, bs, s, k, hR, hE⟩ := h.phase1 hL hw'; have hP := hE.ph; have hV := hP.good.view; have hC := hP.good.cov; have hB := hP.bas
  have hval : E.at (rs.length + 1) (n + 1) = tt (colA n rs c) bs (rs.length + 1) (rhsQ rs) := by rw [← hE.col]; exact hV.rhs _ (by rw [hE.rows]; omega)
  have hebl : E.bas.length = rs.length := hV.basl; by_cases hv : E.at (rs.length + 1) (n + 1) < 0
  · refine ⟨E, fun _ => ⟨by rw [hbl]; exact hw', (h.ph1 hL hw').2, ⟨s, k, by rw [hbl]; exact hR⟩, ?_, ?_, ?_⟩, .none bs hw' hE (by rw [← hval]; exact hv) hv⟩
    all_goals (intro h1; rw [hbl, hcl] at h1; exact absurd hv h1)
  have hq0 := hP.w_eq (Nat.le_refl _) (Yo (rs := rs)); have hq1 : rhsQ rs (rs.length + 1) = 0 := if_neg (by omega); rw [hq1, Int.mul_zero] at hq0
  have hz := sm_zero_of (f := fun k => if bs.getD k 0 = n + rs.length then tt (colA n rs c) bs k (rhsQ rs) else 0) (m := rs.length) (fun k hk => by
    show 0 ≤ (if bs.getD k 0 = n + rs.length then tt (colA n rs c) bs k (rhsQ rs) else 0); split
    · exact hP.good.feas k hk
    · exact Int.le_refl _) (by omega)
  have hr2 : (0 ≤ fIx E.bas ((n + rs.length : Nat) : Int) → 0 ≤ nzC E n ((n + rs.length : Nat) : Int)) ∧ ∃ bs2, Ph n rs c (n + rs.length + 1) (stE2 E n ((n + rs.length : Nat) : Int)) bs2 ∧ ∀ i, i < rs.length → bs2.getD i 0 ≠ n + rs.length := by
    by_cases hf : fIx E.bas ((n + rs.length : Nat) : Int) < 0
    · refine ⟨fun h1 => by omega, bs, by unfold stE2; rw [if_pos hf]; exact hP, fun i hi he => ?_⟩; have : 0 ≤ fIx E.bas ((n + rs.length : Nat) : Int) := idxI_nn (k := i) 0 (by omega) (by rw [hV.basv i hi, he]; simp); omega
    · have hg := idxI_get (p := fun x => decide (((n + rs.length : Nat) : Int) = x)) (xs := E.bas) 0 (show 0 ≤ fIx E.bas ((n + rs.length : Nat) : Int) by omega); obtain ⟨r, hr⟩ : ∃ r : Nat, fIx E.bas ((n + rs.length : Nat) : Int) = r := ⟨(fIx E.bas ((n + rs.length : Nat) : Int)).toNat, by omega⟩; rw [show idxI (fun x => decide (((n + rs.length : Nat) : Int) = x)) E.bas = fIx E.bas ((n + rs.length : Nat) : Int) from rfl, hr] at hg; simp only [Int.toNat_natCast, decide_eq_true_eq] at hg
      have hrm : r < rs.length := by omega
      have hbr : bs.getD r 0 = n + rs.length := by have := hV.basv r hrm; omega
      obtain ⟨j0, hj0, hj1⟩ := hP.row_ne hrm hbr; have hrl := hV.row r (by rw [hE.rows]; omega); rw [hE.col] at hrl
      have hnz : 0 ≤ nzC E n ((n + rs.length : Nat) : Int) := by
        unfold nzC; rw [hr, Int.toNat_natCast]
        refine idxI_nn (k := j0) 0 (by rw [List.length_take]; have := hE.col; omega) ?_
        have : ((E.rows.getD r []).take (n + 1)).getD j0 0 = E.at r j0 := by
          rw [List.getD_eq_getElem?_getD, List.getElem?_take, if_pos (by have := hE.col; omega), ← List.getD_eq_getElem?_getD]
        rw [this]; exact decide_eq_true hj1
      refine ⟨fun _ => hnz, ?_⟩; have hng := idxI_get (p := fun x => decide (x ≠ 0)) (xs := (E.rows.getD (fIx E.bas ((n + rs.length : Nat) : Int)).toNat []).take (n + 1)) 0 hnz; rw [show idxI (fun x => decide (x ≠ 0)) ((E.rows.getD (fIx E.bas ((n + rs.length : Nat) : Int)).toNat []).take (n + 1)) = nzC E n ((n + rs.length : Nat) : Int) from rfl, hr] at hng; obtain ⟨s2, hs2⟩ : ∃ s2 : Nat, nzC E n ((n + rs.length : Nat) : Int) = s2 := ⟨(nzC E n ((n + rs.length : Nat) : Int)).toNat, by omega⟩; rw [hs2] at hng; simp only [Int.toNat_natCast, decide_eq_true_eq, List.length_take] at hng
      have hs2n : s2 < n + 1 := by omega
      have hat : ((E.rows.getD r []).take (n + 1)).getD s2 0 = E.at r s2 := by
        rw [List.getD_eq_getElem?_getD, List.getElem?_take, if_pos hs2n, ← List.getD_eq_getElem?_getD]
      rw [hat] at hng; have h0 : (if bs.getD r 0 = n + rs.length then tt (colA n rs c) bs r (rhsQ rs) else 0) = 0 := hz r hrm; rw [if_pos hbr] at h0; have hsw := hP.swap hL hrm (s := s2) (by rw [hE.col]; exact hs2n) hng.2 h0; refine ⟨_, by unfold stE2; rw [if_neg hf, hr, hs2, Int.toNat_natCast, Int.toNat_natCast]; exact hsw, fun i hi he => ?_⟩; rw [getD_set' (by rw [hB.len]; omega)] at he; by_cases hir : r = i
      · rw [if_pos hir] at he; have := hC.dis s2 r (by rw [hE.col]; exact hs2n) hrm; have h5 := hV.colv s2; rw [hbr] at this; omega
      · rw [if_neg hir] at he; exact hB.ne (Y3 (i := r) (k := i) (by rw [hB.len]; omega) (by rw [hB.len]; omega) (Ne.symm hir) (by rw [hbr, he]))
  obtain ⟨hnz, bs2, hP2, hna⟩ := hr2; have hV2 := hP2.good.view
  have e2r : (stE2 E n ((n + rs.length : Nat) : Int)).rows.length = rs.length + 2 := by
    unfold stE2; split
    · exact hE.rows
    · rw [Zk]; exact hE.rows
  have e2c : (stE2 E n ((n + rs.length : Nat) : Int)).col.length = n + 1 := by
    unfold stE2; split
    · exact hE.col
    · rw [Z8]; exact hE.col
  have hout : 0 ≤ fIx (stE2 E n ((n + rs.length : Nat) : Int)).col ((n + rs.length : Nat) : Int) := by
    rcases hP2.good.cov.all (n + rs.length) (by omega) with ⟨i, hi, he⟩ | ⟨j, hj, he⟩
    · exact absurd he (hna i hi)
    · exact idxI_nn (k := j) 0 hj (by rw [he]; simp)
  have hfit : Fit (stE2 E n ((n + rs.length : Nat) : Int)) := ⟨hP2.good.hl, hV2.row, by rw [hV2.basl]; exact hV2.rm, hP2.good.few, hP2.good.thin⟩; refine ⟨E, fun _ => ⟨by rw [hbl]; exact hw', (h.ph1 hL hw').2, ⟨s, k, by rw [hbl]; exact hR⟩, fun _ => by rw [hcl]; exact hnz, fun _ => by rw [hcl]; exact hfit, fun _ => by rw [hcl]; exact hout⟩, ?_⟩; have hg := idxI_get (p := fun x => decide (((n + rs.length : Nat) : Int) = x)) (xs := (stE2 E n ((n + rs.length : Nat) : Int)).col) 0 hout; rw [show idxI (fun x => decide (((n + rs.length : Nat) : Int) = x)) (stE2 E n ((n + rs.length : Nat) : Int)).col = fIx (stE2 E n ((n + rs.length : Nat) : Int)).col ((n + rs.length : Nat) : Int) from rfl] at hg; have hcut := hP2.cut e2r hna hg.1 (of_decide_eq_true hg.2).symm
  refine .some bs2 hw' hv hcut ?_ ?_
  · show ((stE2 E n ((n + rs.length : Nat) : Int)).col.eraseIdx _).length = n; rw [List.length_eraseIdx, if_pos hg.1, e2c]; rfl
  · show (delP _ _ _).length = _; rw [delP_len, List.length_take, e2r]; omega
end
structure Oc where
  kind : Int
  value : Fr
  point : List Fr
  ray : List Fr
  dual : List Fr
def frz0 : Fr := ⟨false, 0, 0⟩
def ocOf (n m : Nat) (T E F : Tv) (s : Int) : Oc :=
  if stRes T E = false then ⟨3, frz0, [], [], (duS E n m (m + 1) E.col.length).map ofQ⟩
  else if 0 ≤ s then ⟨2, frz0, (ptS F n F.bas.length).map ofQ, (raS F n s.toNat F.bas.length).map ofQ, []⟩
  else ⟨1, ofQ (shq (F.at m F.col.length) F.den), (ptS F n F.bas.length).map ofQ, [], (duS F n m m F.col.length).map ofQ⟩
structure SolRun (n : Nat) (rs : List Rw) (c : List Int) (T E F : Tv) (s : Int) : Prop where
  beg : Beg n rs c T
  start : 0 ≤ wrS T rs.length → StartRun T ((n + rs.length : Nat) : Int) E
  eg : stRes T E = false → Gd E ∧ E.rows.length = rs.length + 2 ∧ ∀ i, 0 ≤ E.col.getD i 0
  run : stRes T E = true → ∃ k, RunOk rs.length F s k (stOut T E ((n + rs.length : Nat) : Int))
  fr : stRes T E = true → F.rows.length = rs.length + 1 ∧ (∀ i, 0 ≤ F.col.getD i 0) ∧ (∀ i, 0 ≤ F.bas.getD i 0) ∧ s < F.col.length ∧ -1 ≤ s
end Go.Proofs.YtdhmbgogmoaofaaGreat
namespace Go.Proofs.YtdhmbgogmoaofaaGreat
open Go.Own Go.Limbs
attribute [local irreducible] St Ops Go.Own.Fin Ok
theorem zvRow : (Tryz.prog.info? 57).map (·.zero) = some (some (.agg #[.slice none 0 0, .int .i64 0])) := by kernel_rfl
def badR (n : Int) (r : Rw) : Bool := !okCoeffs n r.cs || decide (r.b < -4503599627370496) || decide (4503599627370496 < r.b)
set_option maxHeartbeats 2000000 in
theorem LValid1_ok (n : Int) (r : Rw) (hl : r.cs.length < 4611686018427387904) : Ok Tryz.prog 90 ([rowC r] ++ [.fr (ptrT [intC n])]) (boolC (badR n r)) := by
  refine Ok.enter Tryz.func90 J _ Tryz.ntmps90 J ?_
  intro S w; refine Qy (Qx fun K hK => ?_); refine Qh 0 J J J J J J J (Qj J J J (Qv (hK _ _ (Qz (Qy ?_))))); clear hK K; refine Qx (fun K hK => ?_); refine Ql J J J lInt J (QW J J J fR0 J (QK J J J J J lInts J (QX govalidCoeffs (validCoeffs_ok n r.cs hl) J J J J (Qe J J J (Qq J J J (Xe 9 J (fun h => ?_) (fun h => ?_)))))))
  · refine Qw J J J (Qw J J J (Qw J J J (Q6 J J J J (Qq J J J (Qw J J J (Qw J J J (Qw J J J (Q6 J J J J (Qj J J J (Qv (hK _ _ (Qz (QU ?_))))))))))))); clear hK K; refine QY [_] rfl (Qu J QQ) (by unfold badR; rw [h]; rfl) J
  · refine QW J J J fR1 J (QK J J J J J lInt J (Qk ilss J J J J (Q2 J J J J (Qq J J J (Qi 14 J (fun h2 => ?_) (fun h2 => ?_))))))
    · refine Qw J J J (Qw J J J (Qw J J J (Q6 J J J J (Qj J J J (Qv (hK _ _ (Qz (QU ?_)))))))); clear hK K; refine QY [_] rfl (Qu J QQ) (by unfold badR; rw [h, decide_eq_true h2]; rfl) J
    · refine QW J J J fR1 J (QK J J J J J lInt J (Qk igtr J J J J (Q2 J J J J (Qj J J J (Qv (hK _ _ (Qz (QU ?_)))))))); clear hK K; refine QY [_] rfl (Qu J QQ) (by unfold badR; rw [h, decide_eq_false h2]; rfl) J
theorem goLValid1 : InGo Tryz.prog 90 := InGo.of Tryz.func90 (by kernel_rfl) (by kernel_rfl)
def validR (n : Int) (rs : List Rw) : Bool := decide (0 ≤ n) && decide (n ≤ 16) && decide (rs.length ≤ 64) && !rs.any (badR n)
set_option maxHeartbeats 2000000 in
theorem Zh (n : Int) (rs : List Rw) (hl : rs.length < 4611686018427387904) (hr : ∀ r ∈ rs, r.cs.length < 4611686018427387904) : Ok Tryz.prog 29 [intC n, rowsC rs] (boolC (validR n rs)) := by
  refine Ok.enter Tryz.func29 J _ Tryz.ntmps29 J ?_
  intro S w; refine Qy (Qx fun K hK => ?_); refine Ops.box1 0 J J J J J J J (Qj J J J (Qv (hK _ _ (Qz (Qy (Qy ?_)))))); clear hK K; refine Qx (fun K hK => ?_); refine Ops.ld1O J J J J J lInt J (Qk ilss J J J J (Qq J J J (Qi 7 J (fun h => ?_) (fun h => ?_))))
  · refine Qw J J J (Qw J J J (Q6 J J J J (Qq J J J (Qw J J J (Qw J J J (Qw J J J (Q6 J J J J (Qv (hK _ _ (Qz (Xq J (Qy ?_)))))))))))); clear hK K; refine Qx (fun K hK => ?_); refine Qj J J J (Qv (hK _ _ (Qz (QU (QV ?_))))); clear hK K; refine QY [_] rfl (Qu J QQ) (by unfold validR; rw [decide_eq_false (show ¬ 0 ≤ n by omega)]; rfl) J
  · refine Ops.ld1O J J J J J lInt J (Qk igtr J J J J (Q2 J J J J (Qq J J J (Qi 11 J (fun h2 => ?_) (fun h2 => ?_)))))
    · refine Qw J J J (Qw J J J (Qw J J J (Q6 J J J J (Qv (hK _ _ (Qz (Xq J (Qy ?_)))))))); clear hK K; refine Qx (fun K hK => ?_); refine Qj J J J (Qv (hK _ _ (Qz (QU (QV ?_))))); clear hK K; refine QY [_] rfl (Qu J QQ) (by unfold validR; rw [decide_eq_false (show ¬ n ≤ 16 by omega), Bool.and_false]; rfl) J
    · refine Qq J J J (Q3 J J sRows.und (List.length_map ..) J (Qk igtr J J J J (Q2 J J J J (Qv (hK _ _ (Qz ?_)))))); clear hK K; refine Q1 J (fun h3 => ?_) (fun h3 => ?_)
      · refine Qy (Qx fun K hK => ?_); refine Qj J J J (Qv (hK _ _ (Qz (QU (QV ?_))))); clear hK K; refine QY [_] rfl (Qu J QQ) (by unfold validR; rw [decide_eq_false (show ¬ rs.length ≤ 64 by omega), Bool.and_false]; rfl) J
      · refine X6 0 _ J J XV (Q0 (Qz (Qy (Qx fun K hK => ?_)))); refine Qq J J J (Ops.makeFunc J J J (QX goContainsFunc_rows (ContainsFunc_rows rs _ _ (badR n) goLValid1 (fun r hr' => LValid1_ok n r (hr r hr')) hl) J J J J ?_)); refine Qe J J J (Qj J J J (Qv (hK _ _ (Qz (QU ?_))))); clear hK K; refine QY [_] rfl (Qu J QQ) (by unfold validR; rw [decide_eq_true (show 0 ≤ n by omega), decide_eq_true (show n ≤ 16 by omega), decide_eq_true (show rs.length ≤ 64 by omega)]; rfl) J
theorem goLValid : InGo Tryz.prog 29 := InGo.of Tryz.func29 (by kernel_rfl) (by kernel_rfl)
def dotN (c x : List Int) : Nat → Int
  | 0 => 0
  | k + 1 => dotN c x k + c.getD k 0 * x.getD k 0
def dot (c x : List Int) : Int := dotN c x (min c.length x.length)
theorem dotN_bd {c x : List Int} {k : Nat} (hc : ∀ y ∈ c, y.natAbs ≤ 9007199254740992) (hx : ∀ y ∈ x, y.natAbs ≤ 1000) : (dotN c x k).natAbs ≤ k * 9007199254740992000 := by
  have g1 : ∀ k, (c.getD k 0).natAbs ≤ 9007199254740992 := fun k => by
    rcases Nat.lt_or_ge k c.length with h | h
    · exact hc _ (Xj h)
    · rw [List.getD_eq_getElem?_getD, List.getElem?_eq_none (by omega)]; decide
  have g2 : ∀ k, (x.getD k 0).natAbs ≤ 1000 := fun k => by
    rcases Nat.lt_or_ge k x.length with h | h
    · exact hx _ (Xj h)
    · rw [List.getD_eq_getElem?_getD, List.getElem?_eq_none (by omega)]; decide
  induction k with
  | zero => simp [dotN]
  | succ k ih =>
    have h3 : (c.getD k 0 * x.getD k 0).natAbs ≤ 9007199254740992000 := by
      rw [Int.natAbs_mul]; exact Nat.mul_le_mul (g1 k) (g2 k)
    have := Int.natAbs_add_le (dotN c x k) (c.getD k 0 * x.getD k 0); simp only [dotN]; omega
set_option maxHeartbeats 4000000 in
theorem Value_tw (c xs : List Int) (hl : c.length ≤ 64) (hlx : xs.length ≤ 64) (hc : ∀ y ∈ c, y.natAbs ≤ 9007199254740992) (hx : ∀ y ∈ xs, y.natAbs ≤ 1000) : Ok Tryz.prog 17 [intsC c, twsC xs] (.fr (tupT [twC (dot c xs), intC 0])) := by
  refine Ok.enter Tryz.func17 J _ Tryz.ntmps17 J ?_
  intro S w; refine Qy (Qx fun K hK => ?_); refine Qa 0 J J zvFrac J J J (Qj J J J (Qv (hK _ _ (Qz (Qy ?_))))); clear hK K; refine Qx (fun K hK => ?_)
  refine QX Yc (From_tw 0 (by decide) (by decide)) J J J J ?_
  refine Qq J J J (QZ J J J J (QZ J J J J (Qa 1 J J zvFrac J J J (Q8 3 J J J J J szFrac J J (Qj J J J (Qv (hK _ _ (Qz (Qy (Qy ?_)))))))))); clear hK K; refine Qx (fun K hK => ?_); refine Qq J J J (Q3 J J sInts.und (List.length_map ..) J (Qq J J J (Q3 J J sFracs.und (List.length_map ..) J (Ops.min2 J J J J (Qq J J J (Qv (hK _ _ (Qz (Q4 ?_))))))))); clear hK K
  refine Qn (α := Nat) (fun i => i ≤ min c.length xs.length)
    (fun i => [(0, .ct (intsC c)), (1, .ct (twsC xs)), (4, .own 0), (6, .own 1), (19, .ct (intC (min (c.length : Int) xs.length))), (20, .ct (intC i))])
    (fun i => [(1, .box 38 (frCs (tf (dotN c xs i)))), (0, .box 38 [.ex (.bool false), .ex (.slice none 0 0), .ex (.slice none 0 0)])]) (fun i => min c.length xs.length - i) 0 (Nat.zero_le _) (by exact QJ J ⟨rfl, rfl, rfl, rfl, rfl, rfl, trivial⟩) ?_
  intro i hi; dsimp only at hi ⊢; refine Qy (Qx fun K hK => ?_); refine Qk ilss J J J J (Qv (hK _ _ (Qz (Qy ?_)))); clear hK K; refine Q1 J (fun h => ?_) (fun h => ?_)
  · have e2 : (i : Int).toNat = i := Int.toNat_natCast i; have b1 := hc (c.getD i 0) (Xj (by omega)); have b2 := hx (xs.getD i 0) (Xj (by omega)); have b3 := dotN_bd (k := i) hc hx
    have b4 : (c.getD i 0 * xs.getD i 0).natAbs ≤ 9007199254740992000 := by
      rw [Int.natAbs_mul]; exact Nat.mul_le_mul b1 b2
    refine Q0 (Qz (Qy (Q4 (Qy (Qx fun K hK => ?_))))); refine Qq J J J (Qj J J J (Qv (hK _ _ (Qz (Qy ?_))))); clear hK K; refine Qx (fun K hK => ?_); refine Qq J J J (Qq J J J (Qc J J J sInts (by omega) (Xw (by omega) (by omega)) J ?_))
    refine Ql J J J lInt J ?_
    rw [e2]
    refine QX Yc (From_tw (c.getD i 0) (by omega) (by omega)) J J J J ?_
    refine Qq J J J (QZ J J J J (QZ J J J J (Qa 2 J J zvFrac J J J (Q8 3 J J J J J szFrac J J (Qj J J J (Qv (hK _ _ (Qz (Qy (Qy ?_)))))))))); clear hK K; refine Qx (fun K hK => ?_); refine Qq J J J (Qk ieql J J J J (Qv (hK _ _ (Qz (Xq J ?_))))); clear hK K; refine Xz mixed 9 (.p 1 (.p 2 (.p 3 (.f 0 (.f 4 (.m 5 (.p 6 (.p 7 (.p 8 (.a 9 (.p 10 .done))))))))))) (by kernel_rfl) (fun K hK => ?_); refine Qq J J J (Qq J J J (Qc J J J sFracs (by omega) (tws_at (by omega) (by omega)) J ?_)); refine Qd (n := 3) J J J J J Qg J (Xk (n := 3) J J J Qg J J ?_); rw [e2]; skip
    refine QX goFMul (Mul_tw (c.getD i 0) (xs.getD i 0) (by unfold Tb; omega) (by unfold Tb; omega)) J J J J ?_
    refine Qq J J J (QZ J J J J (QZ J J J J (Q8 3 J J J J J szFrac J J (Qj J J J (Qv (hK _ _ (Qz (Qy (Qy ?_))))))))); clear hK K; refine Qx (fun K hK => ?_); refine Qq J J J (Qk ieql J J J J (Qv (hK _ _ (Qz (Xq J ?_))))); clear hK K; refine Qx (fun K hK => ?_); refine Qd (n := 3) J J J J J Qg J (Qd (n := 3) J J J J J Qg J (QX goFAdd (Add_tw (dotN c xs i) (c.getD i 0 * xs.getD i 0) (by unfold Tb; omega) (by unfold Tb; omega)) J J J J ?_)); refine Qq J J J (QZ J J J J (QZ J J J J (Q8 3 J J J J J szFrac J J (Qj J J J (Qv (hK _ _ (Qz (Qy ?_)))))))); clear hK K; refine Qx (fun K hK => ?_); refine Qq J J J (Qk ineq J J J J (Qv (hK _ _ (Qz (Qr J (Q0 (Qz ?_))))))); clear hK K; refine Qx (fun K hK => ?_)
    refine Qk (iadd (by omega) (by omega)) J J J J ?_
    refine Qq J J J (Qv (hK _ _ (Q7 ?_))); clear hK K; refine Xy 2 (Qb (i + 1) (by omega) (by omega) (by exact QJ J ⟨rfl, rfl, rfl, rfl, rfl, by simp only [Int.natCast_add]; rfl, trivial⟩))
  · have hi' : i = min c.length xs.length := by omega
    refine Qm (Qz (Qy (Qx fun K hK => ?_))); refine Qd (n := 3) J J J J J Qg J (Q8 3 J J J J J szFrac J J (Qj J J J (Qv (hK _ _ (Qz (QU ?_)))))); clear hK K; refine QY [_, _] rfl (Qp (n := 3) J J Qg J (Qu J QQ)) (by unfold dot; rw [hi']; rfl) J
theorem goValue : InGo Tryz.prog 17 := InGo.of Tryz.func17 (by kernel_rfl) (by kernel_rfl)
theorem cmpI_pos {a b : Int} : 0 < cmpI a b ↔ b < a := by unfold cmpI; split <;> (try split) <;> omega
theorem Yf {a b : Int} : cmpI a b < 0 ↔ a < b := by unfold cmpI; split <;> (try split) <;> omega
theorem goSatisfies1 : InGo Tryz.prog 63 := InGo.of Tryz.func63 (by kernel_rfl) (by kernel_rfl)
theorem X4 {n : Int} {rs : List Rw} (h : validR n rs = true) : 0 ≤ n ∧ n ≤ 16 ∧ rs.length ≤ 64 ∧ ∀ r ∈ rs, (r.cs.length : Int) ≤ n ∧ (∀ y ∈ r.cs, y.natAbs ≤ 1048576) ∧ r.b.natAbs ≤ 4503599627370496 := by
  unfold validR at h; simp only [Bool.and_eq_true, decide_eq_true_eq, Bool.not_eq_true'] at h; obtain ⟨⟨⟨h1, h2⟩, h3⟩, h4⟩ := h; refine ⟨h1, h2, h3, fun r hr => ?_⟩; rw [List.any_eq_false] at h4
  have h5 : badR n r = false := by simpa using h4 r hr
  unfold badR okCoeffs at h5; simp only [Bool.or_eq_false_iff, Bool.not_eq_false', Bool.and_eq_true, decide_eq_true_eq, decide_eq_false_iff_not, Bool.not_eq_true', List.any_eq_false] at h5; obtain ⟨⟨⟨h6, h7⟩, h8⟩, h9⟩ := h5; refine ⟨h6, fun y hy => ?_, by omega⟩
  have h10 : badC y = false := by simpa using h7 y hy
  unfold badC at h10; simp only [Bool.or_eq_false_iff, decide_eq_false_iff_not] at h10; omega
theorem goSatisfies : InGo Tryz.prog 20 := InGo.of Tryz.func20 (by kernel_rfl) (by kernel_rfl)
end Go.Proofs.YtdhmbgogmoaofaaGreat
namespace Go.Proofs.YtdhmbgogmoaofaaGreat
open Go.Own Go.Limbs Go.Det
attribute [local irreducible] St Ops Go.Own.Fin Ok OkM
theorem zvOut : (Tryz.prog.info? 46).map (·.zero) = some (some (.agg #[.int .i64 0, .bool false, .slice none 0 0, .slice none 0 0, .slice none 0 0, .slice none 0 0, .slice none 0 0])) := by kernel_rfl
theorem lOut : LdN Tryz.prog 46 7 := LdN.of _ Tryz.underlying46 rfl (by kernel_rfl)
theorem szOut : (Tryz.prog.info? 46).map (·.size) = some 7 := by kernel_rfl
theorem bOut : bInfo Tryz.prog 46 = some (.agg #[.int .i64 0, .bool false, .slice none 0 0, .slice none 0 0, .slice none 0 0, .slice none 0 0, .slice none 0 0], [(0, some 1), (1, some 3), (4, some 1), (5, some 1), (6, some 1)]) := by kernel_rfl
abbrev ocCs (O : Oc) : List CT := [intC O.kind, boolC O.value.neg, natC O.value.num, natC O.value.den, fracsC O.point, fracsC O.ray, fracsC O.dual]
abbrev ocC (O : Oc) : CT := .fr (aggT (ocCs O))
def oc0 : Oc := ⟨0, frz0, [], [], []⟩
theorem w_nat0 : ∀ S w v, (CT.ex (.slice none 0 0)).p S w v → (natC 0).p S w v := by rw [natC_zero]; exact w_nil
theorem lp_rw {n : Nat} {rs : List Rw} {c : List Int} (h : LpOk n rs c) : (∀ r ∈ rs, OkRw n r) ∧ Okc c := by
  have big : ∀ z : Int, z.natAbs ≤ 4503599627370496 → -1152921504606846976 ≤ z ∧ z ≤ 1152921504606846976 := fun z hz => by omega
  have ok : ∀ xs : List Int, (∀ i, (xs.getD i 0).natAbs ≤ 1048576) → Okc xs := fun xs hx x hm => by
    obtain ⟨i, hi, rfl⟩ := List.getElem_of_mem hm; have := hx i; rw [List.getD_eq_getElem?_getD, List.getElem?_eq_getElem hi] at this; exact big _ (Nat.le_trans this (by decide))
  exact ⟨fun r hr => ⟨h.rl r hr, ok _ (h.rb r hr), (big _ (h.bb r hr)).1, (big _ (h.bb r hr)).2⟩, ok _ h.cb⟩
def kpB (j : Nat) : Bool := Nat.ble 4 j && Nat.blt j 10
end Go.Proofs.YtdhmbgogmoaofaaGreat
namespace Go.Proofs.YtdhmbgogmoaofaaGreat
open Go.Own Go.Limbs
attribute [local irreducible] St Ops Go.Own.Fin Ok OkM
theorem fO0 : fldInfo Tryz.prog 46 0 = some (0, some 1) := by kernel_rfl
theorem fO1 : fldInfo Tryz.prog 46 1 = some (1, some 3) := by kernel_rfl
theorem fO2 : fldInfo Tryz.prog 46 2 = some (4, some 1) := by kernel_rfl
theorem fO3 : fldInfo Tryz.prog 46 3 = some (5, some 1) := by kernel_rfl
theorem fO4 : fldInfo Tryz.prog 46 4 = some (6, some 1) := by kernel_rfl
end Go.Proofs.YtdhmbgogmoaofaaGreat
namespace Go.Own
variable {X : Ctx} {L : AL} {B : BL} {ops : Array Oper} {K : Act → World → Prop} {r : Pl} {k : Kd}
  {x y z : Operand} {d : Nat} {t t2 t' : TypeId} {pos : String} {af : Array Edge} {g : Option (Nat × Bool)}
def wneg (p : Int) : Int := IntKind.i64.wrap (-p)
end Go.Own
namespace Go.Proofs.YtdhmbgogmoaofaaGreat
open Go.Own Go.Limbs
attribute [local irreducible] St Ops Go.Own.Fin Ok OkM
def ngP (c : List Int) (i : Nat) : List Int := (List.range c.length).map fun j => if j < i then wneg (c.getD j 0) else 0
def vneg (f : Fr) : Fr := ⟨if f.num = 0 then f.neg else !f.neg, f.num, f.den⟩
end Go.Proofs.YtdhmbgogmoaofaaGreat
namespace Go.Proofs.YtdhmbgogmoaofaaGreat
open Go.Own Go.Limbs
attribute [local irreducible] St Ops Go.Own.Fin Ok OkM
set_option maxHeartbeats 4000000 in
theorem FAdd_fine (f h : Fr) (h1 : (limbs f.num).length + (limbs h.den).length ≤ 63) (h3 : (limbs h.num).length + (limbs f.den).length ≤ 63) (hs2 : (limbs f.den).length + (limbs h.den).length ≤ 64) (d1 : 0 < f.den) (d2 : 0 < h.den) :
    Ok Tryz.prog 60 [fracC f, fracC h] (.fr (tupT [ratC (qv f + qv h), intC 0])) := by
  have hp := Nat.mul_pos d1 d2; have l1 : (limbs (f.num * h.den)).length ≤ 63 := Nat.le_trans X2 h1; have l2 : (limbs (h.num * f.den)).length ≤ 63 := Nat.le_trans X2 h3; have l3 := sumN_len (n1 := f.neg) (n2 := h.neg) l1 l2; have l8 := X2 (a := f.den) (b := h.den); have l4 := Y2 (sumS f.neg (f.num * h.den) h.neg (h.num * f.den)) (sumN f.neg (f.num * h.den) h.neg (h.num * f.den)) _ hp; have l5 := redF_neg (sumS f.neg (f.num * h.den) h.neg (h.num * f.den)) (sumN f.neg (f.num * h.den) h.neg (h.num * f.den)) (f.den * h.den); have l6 : (limbs (redF (sumS f.neg (f.num * h.den) h.neg (h.num * f.den)) (sumN f.neg (f.num * h.den) h.neg (h.num * f.den)) (f.den * h.den)).num).length ≤ 64 := div_len l3; have l7 := Xu l4.2; have hr := reduced_ok (sumS f.neg (f.num * h.den) h.neg (h.num * f.den)) (sumN f.neg (f.num * h.den) h.neg (h.num * f.den)) _ hp (by omega) (by omega); show Ok Tryz.prog 60 [fracC f, fracC h] (.fr (tupT [fracC (ofQ (qv f + qv h)), intC 0])); rw [← redF_add f h d1 d2]
  refine Ok.enter Tryz.func60 J _ Tryz.ntmps60 J ?_
  intro S w; generalize redF (sumS f.neg (f.num * h.den) h.neg (h.num * f.den)) (sumN f.neg (f.num * h.den) h.neg (h.num * f.den)) (f.den * h.den) = rr at *; refine Qy (Qx fun K hK => ?_); refine Qh 0 J J J J J J J (Qh 1 J J J J J J J (Qa 2 J J zvFrac J J J (Qj J J J (Qv (hK _ _ (Qz (Qy ?_))))))); clear hK K; refine Xz mixed 20 (.p 0 (.p 2 (.p 4 (.p 7 (.p 9 (.p 11 (.f 1 (.f 3 (.f 5 (.f 8 (.f 10 (.f 12 (.m 6 (.m 13 (.m 14 (.p 15 (.p 16 (.p 17 (.p 18 (.p 19 .done)))))))))))))))))))) (by kernel_rfl) (fun K hK => ?_); refine QW J J J fF0 J (QW J J J fF1 J (QW J J J fF2 J (QW J J J fF0 J (QW J J J fF1 J (QW J J J fF2 J (QK J J J J J lBool J (QK J J J J J lNat J (QK J J J J J lNat J (QK J J J J J lBool J (QK J J J J J lNat J (QK J J J J J lNat J (QX goproduct (product_ok f.num h.den (by omega)) J J J J ?_)))))))))))); skip
  refine QX goproduct (product_ok h.num f.den (by omega)) J J J J ?_
  skip
  refine QX gosum (sum_ok _ _ _ _ (by omega) (by omega)) J J J J ?_
  refine Qq J J J (QZ J J J J (QZ J J J J (Qj J J J (Qj J J J (Qv (hK _ _ (Qz (Qy ?_)))))))); clear hK K; refine Qx (fun K hK => ?_); refine Qq J J J (Qq J J J (QW J J J fF2 J (QK J J J J J lNat J (QW J J J fF2 J (QK J J J J J lNat J (QX goproduct (product_ok f.den h.den (by omega)) J J J J ?_)))))); skip; refine QX goreduced hr J J J J (QX gochecked (checked_ok rr (by omega) (by omega) l4.1 l5) J J J J ?_); refine QZ J J J J (QZ J J J J (Q8 3 J J J J J szFrac J J (Qj J J J (Qv (hK _ _ (Qz (QU ?_))))))); clear hK K; refine QY [_, _] rfl (Qp (n := 3) J J Qg J (Qu J QQ)) J J
def psum (c : List Int) (xs : List Fr) : Nat → Rat
  | 0 => 0
  | k + 1 => psum c xs k + (c.getD k 0 : Rat) * qv (xs.getD k fr0)
def vsum (c : List Int) (xs : List Fr) : Rat := psum c xs (min c.length xs.length)
structure VFit (c : List Int) (xs : List Fr) : Prop where
  cl : c.length ≤ 1000
  xl : xs.length ≤ 1000
  cb : ∀ i, -9223372036854775808 ≤ c.getD i 0 ∧ c.getD i 0 ≤ 9223372036854775807
  den : ∀ k, k < min c.length xs.length → 0 < (xs.getD k fr0).den
  mn : ∀ k, k < min c.length xs.length → (limbs (ofQ (c.getD k 0 : Rat)).num).length + (limbs (xs.getD k fr0).num).length ≤ 64
  md : ∀ k, k < min c.length xs.length → 1 + (limbs (xs.getD k fr0).den).length ≤ 64
  a1 : ∀ k, k < min c.length xs.length → (limbs (ofQ (psum c xs k)).num).length + (limbs (ofQ ((c.getD k 0 : Rat) * qv (xs.getD k fr0))).den).length ≤ 63
  a2 : ∀ k, k < min c.length xs.length → (limbs (ofQ ((c.getD k 0 : Rat) * qv (xs.getD k fr0))).num).length + (limbs (ofQ (psum c xs k)).den).length ≤ 63
  a3 : ∀ k, k < min c.length xs.length → (limbs (ofQ (psum c xs k)).den).length + (limbs (ofQ ((c.getD k 0 : Rat) * qv (xs.getD k fr0))).den).length ≤ 64
theorem divInt_one (n : Int) : Rat.divInt n 1 = (n : Rat) := Rat.num_divInt_den (n : Rat)
theorem Xp (q : Rat) : 0 < (ofQ q).den := q.den_pos
theorem ofQ_int_den (n : Int) : (ofQ (n : Rat)).den = 1 := rfl
theorem From_int (n : Int) (h1 : -9223372036854775808 ≤ n) (h2 : n ≤ 9223372036854775807) : Ok Tryz.prog 58 [intC n, intC 1] (.fr (tupT [ratC (n : Rat), intC 0])) := by
  have := FFrom_ok n 1 h1 h2 (by decide) (by decide) (by decide); rw [divInt_one] at this; exact this
set_option maxHeartbeats 8000000 in
theorem Value_gen (c : List Int) (xs : List Fr) (H : VFit c xs) : Ok Tryz.prog 17 [intsC c, fracsC xs] (.fr (tupT [ratC (vsum c xs), intC 0])) := by
  have hcl := H.cl; have hxl := H.xl
  refine Ok.enter Tryz.func17 J _ Tryz.ntmps17 J ?_
  intro S w; refine Qy (Qx fun K hK => ?_); refine Qa 0 J J zvFrac J J J (Qj J J J (Qv (hK _ _ (Qz (Qy ?_))))); clear hK K; refine Qx (fun K hK => ?_)
  refine QX Yc (From_int 0 (by decide) (by decide)) J J J J ?_
  refine Qq J J J (QZ J J J J (QZ J J J J (Qa 1 J J zvFrac J J J (Q8 3 J J J J J szFrac J J (Qj J J J (Qv (hK _ _ (Qz (Qy (Qy ?_)))))))))); clear hK K; refine Qx (fun K hK => ?_); refine Qq J J J (Q3 J J sInts.und (List.length_map ..) J (Qq J J J (Q3 J J sFracs.und (List.length_map ..) J (Ops.min2 J J J J (Qq J J J (Qv (hK _ _ (Qz (Q4 ?_))))))))); clear hK K
  refine Qn (α := Nat) (fun i => i ≤ min c.length xs.length)
    (fun i => [(0, .ct (intsC c)), (1, .ct (fracsC xs)), (4, .own 0), (6, .own 1), (19, .ct (intC (min (c.length : Int) xs.length))), (20, .ct (intC i))])
    (fun i => [(1, .box 38 (frCs (ofQ (psum c xs i)))), (0, .box 38 [.ex (.bool false), .ex (.slice none 0 0), .ex (.slice none 0 0)])]) (fun i => min c.length xs.length - i) 0 (Nat.zero_le _) (by exact QJ J ⟨rfl, rfl, rfl, rfl, rfl, rfl, trivial⟩) ?_
  intro i hi
  (try dsimp only at hi ⊢)
  have es : psum c xs (i + 1) = psum c xs i + (c.getD i 0 : Rat) * qv (xs.getD i fr0) := rfl; refine Qy (Qx fun K hK => ?_); refine Qk ilss J J J J (Qv (hK _ _ (Qz (Qy ?_)))); clear hK K; refine Q1 J (fun h => ?_) (fun h => ?_)
  · have e2 : (i : Int).toNat = i := Int.toNat_natCast i
    have hi2 : i < min c.length xs.length := by omega
    have hcb := H.cb i; have hM := FMul_gen (ofQ (c.getD i 0 : Rat)) (xs.getD i fr0) (H.mn i hi2) (by rw [ofQ_int_den]; have := H.md i hi2; have e : (limbs 1).length ≤ 1 := Qf (by decide); omega) (Xp _) (H.den i hi2); rw [Y6] at hM; have hA := FAdd_fine (ofQ (psum c xs i)) (ofQ ((c.getD i 0 : Rat) * qv (xs.getD i fr0))) (H.a1 i hi2) (H.a2 i hi2) (H.a3 i hi2) (Xp _) (Xp _); rw [Y6, Y6, ← es] at hA; refine Q0 (Qz (Qy (Q4 (Qy (Qx fun K hK => ?_))))); refine Qq J J J (Qj J J J (Qv (hK _ _ (Qz (Qy ?_))))); clear hK K; refine Qx (fun K hK => ?_); refine Qq J J J (Qq J J J (Qc J J J sInts (by omega) (Xw (by omega) (by omega)) J ?_))
    refine Ql J J J lInt J ?_
    rw [e2]
    refine QX Yc (From_int (c.getD i 0) (by omega) (by omega)) J J J J ?_
    refine Qq J J J (QZ J J J J (QZ J J J J (Qa 2 J J zvFrac J J J (Q8 3 J J J J J szFrac J J (Qj J J J (Qv (hK _ _ (Qz (Qy (Qy ?_)))))))))); clear hK K; refine Qx (fun K hK => ?_); refine Qq J J J (Qk ieql J J J J (Qv (hK _ _ (Qz (Xq J ?_))))); clear hK K; refine Xz mixed 9 (.p 1 (.p 2 (.p 3 (.f 0 (.f 4 (.m 5 (.p 6 (.p 7 (.p 8 (.a 9 (.p 10 .done))))))))))) (by kernel_rfl) (fun K hK => ?_); refine Qq J J J (Qq J J J (Qc J J J sFracs (by omega) (fracs_at (by omega) (by omega)) J ?_)); refine Qd (n := 3) J J J J J Qg J (Xk (n := 3) J J J Qg J J ?_); rw [e2]; skip; refine QX goFMul hM J J J J (Qq J J J (QZ J J J J (QZ J J J J (Q8 3 J J J J J szFrac J J (Qj J J J (Qv (hK _ _ (Qz (Qy (Qy ?_)))))))))); clear hK K; refine Qx (fun K hK => ?_); refine Qq J J J (Qk ieql J J J J (Qv (hK _ _ (Qz (Xq J ?_))))); clear hK K; refine Qx (fun K hK => ?_); refine Qd (n := 3) J J J J J Qg J (Qd (n := 3) J J J J J Qg J (QX goFAdd hA J J J J (Qq J J J (QZ J J J J (QZ J J J J (Q8 3 J J J J J szFrac J J (Qj J J J (Qv (hK _ _ (Qz (Qy ?_))))))))))); clear hK K; refine Qx (fun K hK => ?_)
    refine Qq J J J (Qk ineq J J J J (Qv (hK _ _ (Qz (Qr J (Q0 (Qz ?_))))))); clear hK K; refine Qx (fun K hK => ?_)
    refine Qk (iadd (by omega) (by omega)) J J J J ?_
    refine Qq J J J (Qv (hK _ _ (Q7 ?_))); clear hK K; refine Xy 2 (Qb (i + 1) (by omega) (by omega) (by exact QJ J ⟨rfl, rfl, rfl, rfl, rfl, by simp only [Int.natCast_add]; rfl, trivial⟩))
  · have hi' : i = min c.length xs.length := by omega
    refine Qm (Qz (Qy (Qx fun K hK => ?_))); refine Qd (n := 3) J J J J J Qg J (Q8 3 J J J J J szFrac J J (Qj J J J (Qv (hK _ _ (Qz (QU ?_)))))); clear hK K; refine QY [_, _] rfl (Qp (n := 3) J J Qg J (Qu J QQ)) (by unfold vsum; rw [hi']; rfl) J
def cmpQ (p q : Rat) : Int := (p.num * q.den - q.num * p.den).sign
theorem sg_sign (n : Bool) (a : Nat) : (sg n a).sign = if a = 0 then 0 else if n then -1 else 1 := by
  unfold sg; by_cases h : a = 0
  · rw [if_pos h, h]; cases n <;> rfl
  · rw [if_neg h]
    cases n with
    | true => rw [if_pos J, if_pos J]; exact Int.sign_eq_neg_one_of_neg (by omega)
    | false => rw [if_neg (by decide), if_neg (by decide)]; exact Int.sign_eq_one_of_pos (by omega)
theorem sg_not (n : Bool) (a : Nat) : sg (!n) a = -sg n a := by cases n <;> simp [sg]
theorem FCompare_q (p q : Rat) (h1 : (limbs (ofQ p).num).length ≤ 90) (h2 : (limbs (ofQ p).den).length ≤ 90) (h3 : (limbs (ofQ q).num).length ≤ 90) (h4 : (limbs (ofQ q).den).length ≤ 90) : Ok Tryz.prog 65 [ratC p, ratC q] (.fr (tupT [intC (cmpQ p q), intC 0])) := by
  have h := FCompare_gen (ofQ p) (ofQ q) h1 h2 h3 h4
  have e : cmpQ p q = if sumN (ofQ p).neg ((ofQ p).num * (ofQ q).den) (!(ofQ q).neg) ((ofQ q).num * (ofQ p).den) = 0 then 0 else if sumS (ofQ p).neg ((ofQ p).num * (ofQ q).den) (!(ofQ q).neg) ((ofQ q).num * (ofQ p).den) then -1 else 1 := by
    have e1 := sum_sg (ofQ p).neg ((ofQ p).num * (ofQ q).den) (!(ofQ q).neg) ((ofQ q).num * (ofQ p).den); rw [← sg_sign, e1, sg_not, Y4, Y4, ofQ_sg, ofQ_sg]; unfold cmpQ
    congr 1
  rw [e]; exact h
structure VF (f : Fr) : Prop where
  num : (limbs f.num).length ≤ 64
  den : (limbs f.den).length ≤ 64
  pos : 0 < f.den
  neg : f.neg = true → f.num ≠ 0
theorem VF.list {f : Fr} (h : VF f) : fvalidL f.neg (limbs f.num) (limbs f.den) = true := by
  unfold fvalidL; have h3 := limbs_len_pos (n := f.den); have h4 := limbs_len_pos (n := f.num); have h1 := h.num; have h2 := h.den; have hp := h.pos; rw [YY (by omega), YY (by omega), decide_eq_true h1, decide_eq_true h2, decide_eq_true (h3.2 (by omega))]
  cases hn : f.neg with
  | false => rfl
  | true => rw [decide_eq_false (fun h5 => by have := h4.2 (h.neg hn); omega)]; rfl
theorem FValid_V (f : Fr) (h : VF f) : Ok Tryz.prog 64 [fracC f] (boolC true) := by
  have := Zl f.neg (limbs f.num) (limbs f.den) (by have := h.num; omega) (by have := h.den; omega); rw [h.list] at this; exact this
theorem VF.q (q : Rat) (h1 : (limbs (ofQ q).num).length ≤ 64) (h2 : (limbs (ofQ q).den).length ≤ 64) : VF (ofQ q) := ⟨h1, h2, Xp q, fun h => by
  have : q.num < 0 := of_decide_eq_true h
  show q.num.natAbs ≠ 0
  omega⟩
theorem Satisfies1_V (f : Fr) (h : VF f) : Ok Tryz.prog 63 [fracC f] (boolC f.neg) := by
  refine Ok.enter Tryz.func63 J _ Tryz.ntmps63 J ?_
  intro S w; refine Qy (Qx fun K hK => ?_); refine Qh 0 J J J J J J J (Qj J J J (Qv (hK _ _ (Qz (Qy ?_))))); clear hK K; refine Qx (fun K hK => ?_); refine Qd (n := 3) J J J J J Qg J (QX Yx (FValid_V f h) J J J J (Qe J J J (Qq J J J (QW J J J fF0 J (QK J J J J J lBool J (Q2 J J J J (Qj J J J (Qv (hK _ _ (Qz (QU ?_))))))))))); clear hK K; refine QY [_] rfl (Qu J QQ) J J
def satB (n : Int) (rs : List Rw) (xs : List Fr) : Bool := (validR n rs && decide ((xs.length : Int) = n)) && (!(xs.any fun f => f.neg) && rs.all fun r => decide (cmpQ (vsum r.cs xs) (r.b : Rat) ≤ 0))
structure SFit (rs : List Rw) (xs : List Fr) : Prop where
  v : ∀ r ∈ rs, VFit r.cs xs
  s1 : ∀ r ∈ rs, (limbs (ofQ (vsum r.cs xs)).num).length ≤ 64
  s2 : ∀ r ∈ rs, (limbs (ofQ (vsum r.cs xs)).den).length ≤ 64
theorem int_lens {b : Int} (hb : b.natAbs ≤ 4503599627370496) : (limbs (ofQ (b : Rat)).num).length ≤ 2 ∧ (limbs (ofQ (b : Rat)).den).length ≤ 1 :=
  ⟨Qf (Nat.lt_of_le_of_lt hb (by decide)), by rw [ofQ_int_den]; exact Qf (by decide)⟩
set_option maxHeartbeats 8000000 in
theorem Satisfies_gen (n : Int) (rs : List Rw) (xs : List Fr) (hrl : rs.length < 4611686018427387904) (hcl : ∀ r ∈ rs, r.cs.length < 4611686018427387904) (hxl : xs.length ≤ 1000) (hx : ∀ f ∈ xs, VF f) (hS : validR n rs = true → (xs.length : Int) = n → SFit rs xs) :
    Ok Tryz.prog 20 [intC n, rowsC rs, fracsC xs] (boolC (satB n rs xs)) := by
  have hV := Zh n rs hrl hcl; have hC := Zo xs _ (fun f => f.neg) goSatisfies1 (fun f hf => Satisfies1_V f (hx f hf)) (by omega); have hsat : satB n rs xs = ((validR n rs && decide ((xs.length : Int) = n)) && (!(xs.any fun f => f.neg) && rs.all fun r => decide (cmpQ (vsum r.cs xs) (r.b : Rat) ≤ 0))) := rfl; generalize satB n rs xs = res at *
  refine Ok.enter Tryz.func20 J _ Tryz.ntmps20 J ?_
  intro S w
  cases hv : validR n rs with
  | false =>
    rw [hv] at hV hsat; refine Qy (Qx fun K hK => ?_); refine Qj J J J (Qv (hK _ _ (Qz (Qy (Qy ?_))))); clear hK K; refine Qx (fun K hK => ?_); refine Qq J J J (Qq J J J (QX goLValid hV J J J J (Qe J J J (Qq J J J (Qw J J J (Qw J J J (Qw J J J (Qw J J J (Q6 J J J J (Qq J J J (Qw J J J (Qw J J J (Q6 J J J J (Qv (hK _ _ (Qz (Xq J (Qy ?_)))))))))))))))))); clear hK K; refine Qx (fun K hK => ?_); refine Qj J J J (Qv (hK _ _ (Qz (QU (QV ?_))))); clear hK K; refine QY [_] rfl (Qu J QQ) (by rw [hsat]; rfl) J
  | true =>
  rw [hv] at hV hsat; by_cases hn : (xs.length : Int) = n
  · have H := hS hv hn; obtain ⟨v1, v2, v3, v4⟩ := X4 hv; rw [decide_eq_true hn] at hsat
    cases ha : xs.any (fun f => f.neg) with
    | true =>
      rw [ha] at hC hsat; refine Qy (Qx fun K hK => ?_); refine Qj J J J (Qv (hK _ _ (Qz (Qy (Qy ?_))))); clear hK K; refine Qx (fun K hK => ?_); refine Qq J J J (Qq J J J (QX goLValid hV J J J J (Qe J J J (Qq J J J (Qq J J J (Q3 J J sFracs.und (List.length_map ..) J (Qq J J J (Qk ineq J J J J (Q2 J J J J (Qq J J J ?_)))))))))); rw [decide_eq_false (show ¬ ((xs.length : Int) ≠ n) by omega)]; refine Qq J J J (QX Xg hC J J J J (Q2 J J J J (Qv (hK _ _ (Qz (Xq J (Qy ?_))))))); clear hK K; refine Qx (fun K hK => ?_); refine Qj J J J (Qv (hK _ _ (Qz (QU (QV ?_))))); clear hK K; refine QY [_] rfl (Qu J QQ) (by rw [hsat]; rfl) J
    | false =>
      rw [ha] at hC hsat
      have hsat : res = rs.all fun r => decide (cmpQ (vsum r.cs xs) (r.b : Rat) ≤ 0) := by rw [hsat]; simp
      clear ha hS hx; refine Qy (Qx fun K hK => ?_); refine Qj J J J (Qv (hK _ _ (Qz (Qy (Qy ?_))))); clear hK K; refine Qx (fun K hK => ?_); refine Qq J J J (Qq J J J (QX goLValid hV J J J J (Qe J J J (Qq J J J (Qq J J J (Q3 J J sFracs.und (List.length_map ..) J (Qq J J J (Qk ineq J J J J (Q2 J J J J (Qq J J J ?_)))))))))); rw [decide_eq_false (show ¬ ((xs.length : Int) ≠ n) by omega)]; refine Qq J J J (QX Xg hC J J J J (Q2 J J J J (Qv (hK _ _ (Qz (Qr J (Q0 (Qz (Qy (Qy ?_)))))))))); clear hK K; refine Qx (fun K hK => ?_); refine Qq J J J (Q3 J J sRows.und (List.length_map ..) J (Qq J J J (Qv (hK _ _ (Qz (Q4 ?_)))))); clear hK K
      refine Qn (α := Nat) (fun i => i ≤ rs.length ∧ ∀ j, j < i → cmpQ (vsum (rs.getD j rw0).cs xs) ((rs.getD j rw0).b : Rat) ≤ 0)
        (fun i => [(2, .ct (fracsC xs)), (29, .ct (rowsC rs)), (30, .ct (intC rs.length)), (31, .ct (intC i))]) (fun _ => []) (fun i => rs.length - i) 0 ⟨Nat.zero_le _, fun j h => absurd h (Nat.not_lt_zero j)⟩ (by exact QJ J ⟨rfl, rfl, rfl, rfl, trivial⟩) ?_
      intro i ⟨hi, hj⟩
      (try dsimp only at hi hj ⊢)
      refine Qy (Qx fun K hK => ?_); refine Qk ilss J J J J (Qv (hK _ _ (Qz (Qy ?_)))); clear hK K; refine Q1 J (fun h => ?_) (fun h => ?_)
      · have e2 : (i : Int).toNat = i := Int.toNat_natCast i
        have hlt : i < rs.length := by omega
        have hmem := Xj (z := rw0) hlt; obtain ⟨r1, r2, r3⟩ := v4 (rs.getD i rw0) hmem; have hVal := Value_gen (rs.getD i rw0).cs xs (H.v _ hmem); have hb := int_lens r3; have hCm := FCompare_q (vsum (rs.getD i rw0).cs xs) ((rs.getD i rw0).b : Rat) (by have := H.s1 _ hmem; omega) (by have := H.s2 _ hmem; omega) (by omega) (by omega); have hFr := From_int (rs.getD i rw0).b (by omega) (by omega); refine Q0 (Qz (Qy (Q4 (Qy (Qx fun K hK => ?_)))))
        refine Qc J J J sRows (by omega) (ZQ (by omega) (by omega)) J ?_
        refine Xk (n := 2) J J J lRow J J (Qa 0 J J zvRow J J J (Q8 2 J J J J J szRow J J (Qv (hK _ _ (Qz (Qy ?_)))))); clear hK K; refine Qx (fun K hK => ?_); refine QW J J J fR0 J (QK J J J J J lInts J (Qq J J J ?_)); rw [e2]; skip; refine QX goValue hVal J J J J (Qq J J J (QZ J J J J (QZ J J J J (Qa 1 J J zvFrac J J J (Q8 3 J J J J J szFrac J J (Qj J J J (Qv (hK _ _ (Qz (Qy (Qy ?_))))))))))); clear hK K; refine Qx (fun K hK => ?_); refine Qq J J J (Qk ineq J J J J (Qv (hK _ _ (Qz (Qr J (Q0 (Qz (Qy ?_)))))))); clear hK K; refine Qx (fun K hK => ?_); refine QW J J J fR1 J (QK J J J J J lInt J (QX Yc hFr J J J J (Qq J J J (QZ J J J J (QZ J J J J (Qa 2 J J zvFrac J J J (Q8 3 J J J J J szFrac J J (Qj J J J (Qv (hK _ _ (Qz (Qy ?_)))))))))))); clear hK K; refine Qx (fun K hK => ?_); refine Qd (n := 3) J J J J J Qg J (Qd (n := 3) J J J J J Qg J (QX goFCompare hCm J J J J (Qq J J J (QZ J J J J (QZ J J J J (Qj J J J (Qj J J J (Qv (hK _ _ (Qz (Qy ?_))))))))))); clear hK K; refine Qx (fun K hK => ?_); refine Qq J J J (Qk igtr J J J J (Qv (hK _ _ (Qz ?_)))); clear hK K
        refine Q1 J (fun h2 => ?_) (fun h2 => ?_)
        · refine Qy (Qx fun K hK => ?_); refine Qj J J J (Qv (hK _ _ (Qz (QU (Q5 (QV (QV (Q5 (QV ?_))))))))); clear hK K
          refine QY [_] rfl (Qu J QQ) (by
            rw [hsat, List.all_eq_false.mpr ⟨_, hmem, by simp only [decide_eq_true_eq]; omega⟩]; rfl) J
        · refine Q0 (Qz (Qx fun K hK => ?_))
          refine Qk (iadd (by omega) (by omega)) J J J J ?_
          refine Qq J J J (Qv (hK _ _ (Q7 ?_))); clear hK K; refine Xy 2 (Xy 1 (Xy 0 ?_)); refine Qb (i + 1) (by omega) ⟨by omega, ?_⟩ (by exact QJ J ⟨rfl, rfl, rfl, by simp only [Int.natCast_add]; rfl, trivial⟩); intro j hj'; rcases Nat.lt_or_ge j i with h3 | h3
          · exact hj j h3
          · have : j = i := by omega
            rw [this]; omega
      · have hi' : i = rs.length := by omega
        refine Qm (Qz (Qy (Qx fun K hK => ?_))); refine Qj J J J (Qv (hK _ _ (Qz (QU ?_)))); clear hK K
        refine QY [_] rfl (Qu J QQ) (by
          rw [hsat, List.all_eq_true.mpr fun r hr => by
            obtain ⟨j, hj2, rfl⟩ := List.getElem_of_mem hr; have := hj j (by omega); simp only [List.getD_eq_getElem?_getD, List.getElem?_eq_getElem hj2, Option.getD_some] at this
            exact decide_eq_true this]; rfl) J
  · rw [decide_eq_false hn] at hsat; refine Qy (Qx fun K hK => ?_); refine Qj J J J (Qv (hK _ _ (Qz (Qy (Qy ?_))))); clear hK K; refine Qx (fun K hK => ?_); refine Qq J J J (Qq J J J (QX goLValid hV J J J J (Qe J J J (Qq J J J (Qq J J J (Q3 J J sFracs.und (List.length_map ..) J (Qq J J J (Qk ineq J J J J (Q2 J J J J (Qq J J J ?_)))))))))); rw [decide_eq_true (show ((xs.length : Int) ≠ n) by omega)]; refine Qw J J J (Qw J J J (Q6 J J J J (Qv (hK _ _ (Qz (Xq J (Qy ?_))))))); clear hK K; refine Qx (fun K hK => ?_); refine Qj J J J (Qv (hK _ _ (Qz (QU (QV ?_))))); clear hK K; refine QY [_] rfl (Qu J QQ) (by rw [hsat]; rfl) J
end Go.Proofs.YtdhmbgogmoaofaaGreat
namespace Go.Proofs.YtdhmbgogmoaofaaGreat
open Go.Own Go.Limbs
attribute [local irreducible] St Ops Go.Own.Fin Ok
theorem rOrder_ok (x y : Int) : Ok Tryz.prog 162 [intC x, intC y] (intC (cmpI x y)) := by
  refine Ok.enter Tryz.func162 J _ Tryz.ntmps162 J ?_
  intro S w; refine Qy (Qx fun K hK => ?_); refine Qj J J J (Qv (hK _ _ (Qz (Qy (Qy ?_))))); clear hK K; refine Qx (fun K hK => ?_); refine Qq J J J (Qq J J J (Qk ilss J J J J (Qv (hK _ _ (Qz ?_))))); clear hK K; refine Q1 J (fun h => ?_) (fun h => ?_)
  · refine Qy (Qx fun K hK => ?_); refine Qj J J J (Qv (hK _ _ (Qz (QU (QV ?_))))); clear hK K; refine QY [_] rfl (Qu J QQ) (by rw [cmpI_eq, if_pos h]; rfl) J
  · refine Q0 (Qz (Qy (Qy (Qx fun K hK => ?_)))); refine Qq J J J (Qq J J J (Qk igtr J J J J (Qv (hK _ _ (Qz ?_))))); clear hK K; refine Q1 J (fun h2 => ?_) (fun h2 => ?_)
    · refine Qy (Qx fun K hK => ?_); refine Qj J J J (Qv (hK _ _ (Qz (QU (QV ?_))))); clear hK K; refine QY [_] rfl (Qu J QQ) (by rw [cmpI_eq, if_neg h, if_pos h2]; rfl) J
    · refine Q0 (Qz (Qy (Qx fun K hK => ?_))); refine Qj J J J (Qv (hK _ _ (Qz (QU ?_)))); clear hK K; refine QY [_] rfl (Qu J QQ) (by rw [cmpI_eq, if_neg h, if_neg h2]; rfl) J
theorem gorOrder : InGo Tryz.prog 162 := InGo.of Tryz.func162 (by kernel_rfl) (by kernel_rfl)
theorem rTrim_ok (xs : List Int) (hl : xs.length < 4611686018427387904) : Ok Tryz.prog 142 [intsC xs] (intsC (trimL xs)) := by
  refine Ok.enter Tryz.func142 J _ Tryz.ntmps142 J ?_
  intro S w; refine Qy (Qx fun K hK => ?_); refine Qj J J J (Qv (hK _ _ (Qz (Qy (Q4 ?_))))); clear hK K
  refine Qn (α := List Int) (fun ys => trimL ys = trimL xs ∧ ys.length ≤ xs.length) (fun ys => [(0, .ct (intsC ys))]) (fun _ => []) (fun ys => ys.length) xs ⟨rfl, Nat.le_refl _⟩ (Entails.sub ⟨rfl, trivial⟩) ?_
  intro ys ⟨hy, hle⟩; refine Qy (Qy (Qx fun K hK => ?_)); refine Qq J J J (Q3 J J sNat.und (List.length_map ..) J (Qk igtr J J J J (Qq J J J (Qi 6 J (fun h => ?_) (fun h => ?_)))))
  · have e1 : ((ys.length : Int) - 1).toNat = ys.length - 1 := by omega
    refine Qq J J J (Qq J J J (Q3 J J sNat.und (List.length_map ..) J (Qk (isub (by omega) (by omega)) J J J J ?_)))
    refine Qc J J J sNat (by omega) (Xw (by omega) (by omega)) J ?_
    refine Ql J J J lInt J (Qk ieql J J J J (Q6 J J J J (Qv (hK _ _ (Qz ?_))))); clear hK K; refine Q1 J (fun h2 => ?_) (fun h2 => ?_)
    · rw [e1] at h2; refine Q0 (Qz (Q4 (Qx fun K hK => ?_))); refine Qq J J J (Qq J J J (Q3 J J sNat.und (List.length_map ..) J (Qk (isub (by omega) (by omega)) J J J J ?_)))
      refine Ops.cutHi J J J sNat (by omega) (by simp) J ?_
      rw [← List.map_take]; refine Qj J J J (Qv (hK _ _ (XJ (Q7 ?_)))); clear hK K; refine Qb (ys.take ((ys.length : Int) - 1).toNat) (by simp; omega) ⟨?_, by simp; omega⟩ (Entails.sub ⟨rfl, trivial⟩); rw [e1, ← hy]; exact trim_last (by omega) h2
    · rw [e1] at h2; refine Qm (Qz (Qy (Qx fun K hK => ?_))); refine Qq J J J (Qj J J J (Qv (hK _ _ (Qz (QU ?_))))); clear hK K; refine QY [_] rfl (Qu J QQ) (by rw [← hy, trim_done (fun _ => h2)]; rfl) J
  · refine Qw J J J (Qw J J J (Qw J J J (Qw J J J (Qw J J J (Qw J J J (Qw J J J (Q2 J J J J (Qv (hK _ _ (Qz (Qr J (Qm (Qz (Qy ?_)))))))))))))); clear hK K; refine Qx (fun K hK => ?_); refine Qq J J J (Qj J J J (Qv (hK _ _ (Qz (QU ?_))))); clear hK K; refine QY [_] rfl (Qu J QQ) (by rw [← hy, trim_done (fun h3 => absurd h3 (by omega))]; rfl) J
theorem gorTrim : InGo Tryz.prog 142 := InGo.of Tryz.func142 (by kernel_rfl) (by kernel_rfl)
set_option maxHeartbeats 2000000 in
theorem rCompare_ok (a b : Nat) (ha : (limbs a).length < 4611686018427387904) (hb : (limbs b).length < 4611686018427387904) : Ok Tryz.prog 143 [natC a, natC b] (intC (cmpI a b)) := by
  refine Ok.enter Tryz.func143 J _ Tryz.ntmps143 J ?_
  intro S w; refine Qy (Qx fun K hK => ?_); refine Qj J J J (Qv (hK _ _ (Qz (Qy (Qy ?_))))); clear hK K; refine Qx (fun K hK => ?_); refine Qq J J J (Q3 J J sNat.und (List.length_map ..) J (Qq J J J (Q3 J J sNat.und (List.length_map ..) J (Qk ineq J J J J (Qv (hK _ _ (Qz ?_))))))); clear hK K; refine Q1 J (fun h => ?_) (fun h => ?_)
  · have e : cmpI ((limbs a).length : Int) ((limbs b).length : Int) = cmpI (a : Int) (b : Int) := by
      rcases Nat.lt_trichotomy (limbs a).length (limbs b).length with h1 | h1 | h1
      · have := lt_of_len h1; rw [cmpI_eq, cmpI_eq, if_pos (by omega), if_pos (by omega)]
      · omega
      · have := lt_of_len h1; rw [cmpI_eq, cmpI_eq, if_neg (by omega), if_pos (by omega), if_neg (by omega), if_pos (by omega)]
    refine Qy (Qx fun K hK => ?_); refine Qq J J J (Q3 J J sNat.und (List.length_map ..) J (Qq J J J (Q3 J J sNat.und (List.length_map ..) J (QX gorOrder (rOrder_ok _ _) J J J J (Qj J J J (Qv (hK _ _ (Qz (QU (QV ?_)))))))))); clear hK K; refine QY [_] rfl (Qu J QQ) (by rw [← e]; rfl) J
  · have hl : (limbs a).length = (limbs b).length := by omega
    clear h; refine Q0 (Qz (Qy (Qy (Qx fun K hK => ?_)))); refine Qq J J J (Q3 J J sNat.und (List.length_map ..) J (Qk (isub (by omega) (by omega)) J J J J ?_)); refine Qj J J J (Qv (hK _ _ (Qz (Q4 ?_)))); clear hK K
    refine Qn (α := Nat) (fun k => k ≤ (limbs a).length ∧ pre (limbs a) k - pre (limbs b) k = (a : Int) - b)
      (fun k => [(0, .ct (natC a)), (1, .ct (natC b)), (5, .ct (intC ((k : Int) - 1)))]) (fun _ => []) (fun k => k) (limbs a).length ⟨Nat.le_refl _, ?_⟩ (by exact QJ J ⟨rfl, rfl, rfl, trivial⟩) ?_
    · have e1 := Zp a; have e2 := Zp b; rw [← hl] at e2; rw [e1, e2]
    intro k ⟨hk, hv⟩; dsimp only; refine Qy (Qy (Qx fun K hK => ?_)); refine Qq J J J (Qk igeq J J J J (Qv (hK _ _ (Qz ?_)))); clear hK K; refine Q1 J (fun h => ?_) (fun h => ?_)
    · obtain ⟨q, rfl⟩ : ∃ q, k = q + 1 := ⟨k - 1, by omega⟩
      have e1 : (((q + 1 : Nat) : Int) - 1) = (q : Int) := by omega
      have e2 : (q : Int).toNat = q := Int.toNat_natCast q; rw [e1]; refine Q0 (Qz (Qy (Q4 (Qy ?_)))); refine Xz mixed 9 (.p 0 (.p 1 (.p 2 (.p 4 (.p 5 (.p 6 (.f 3 (.f 7 (.p 8 .done))))))))) (by kernel_rfl) (fun K hK => ?_); refine Qq J J J (Qq J J J (Qc J J J sNat (by omega) (Xw (by omega) (by omega)) J ?_)); refine Qq J J J (Qq J J J (Qc J J J sNat (by omega) (Xw (by omega) (by omega)) J ?_)); refine Ql J J J lInt J (Ql J J J lInt J (Qk ineq J J J J (Qv (hK _ _ (Qz ?_))))); clear hK K; refine Q1 J (fun h2 => ?_) (fun h2 => ?_)
      · rw [e2] at h2
        have e : cmpI ((limbs a).getD q 0) ((limbs b).getD q 0) = cmpI (a : Int) (b : Int) := by
          rcases Int.lt_or_gt_of_ne h2 with h3 | h3
          · have := pre_decides (XQ a) (XQ b) h3; rw [cmpI_eq, cmpI_eq, if_pos h3, if_pos (by omega)]
          · have := pre_decides (XQ b) (XQ a) h3; rw [cmpI_eq, cmpI_eq, if_neg (by omega), if_pos h3, if_neg (by omega), if_pos (by omega)]
        refine Qy (Xz mixed 10 (.p 0 (.p 1 (.p 2 (.p 4 (.p 5 (.p 6 (.f 3 (.f 7 (.m 8 (.p 9 .done)))))))))) (by kernel_rfl) (fun K hK => ?_)); refine Qq J J J (Qq J J J (Qc J J J sNat (by omega) (Xw (by omega) (by omega)) J ?_)); refine Qq J J J (Qq J J J (Qc J J J sNat (by omega) (Xw (by omega) (by omega)) J ?_)); refine Ql J J J lInt J (Ql J J J lInt J (QX gorOrder (rOrder_ok _ _) J J J J ?_)); rw [e2]; refine Qj J J J (Qv (hK _ _ (Qz (QU (Q5 (QV (QV (Q5 (QV ?_))))))))); clear hK K; refine QY [_] rfl (Qu J QQ) (by rw [← e]; rfl) J
      · rw [e2] at h2; refine Q0 (Qz (Qx fun K hK => ?_)); refine Qq J J J (Qk (isub (by omega) (by omega)) J J J J ?_); refine Qj J J J (Qv (hK _ _ (Q7 ?_))); clear hK K; refine Qb q (by omega) ⟨by omega, ?_⟩ (by exact QJ J ⟨rfl, rfl, rfl, trivial⟩); rw [XY, XY] at hv; have : (limbs a).getD q 0 = (limbs b).getD q 0 := Classical.not_not.1 h2; rw [this] at hv; omega
    · have hk0 : k = 0 := by omega
      subst hk0; rw [Xr, Xr] at hv; refine Qm (Qz (Qy (Qx fun K hK => ?_))); refine Qj J J J (Qv (hK _ _ (Qz (QU ?_)))); clear hK K; refine QY [_] rfl (Qu J QQ) (by rw [cmpI_eq, if_neg (by omega), if_neg (by omega)]; rfl) J
theorem gorCompare : InGo Tryz.prog 143 := InGo.of Tryz.func143 (by kernel_rfl) (by kernel_rfl)
theorem Yt (xs : List Int) (i : Nat) : Ok Tryz.prog 141 [intsC xs, intC i] (intC (xs.getD i 0)) := by
  refine Ok.enter Tryz.func141 J _ Tryz.ntmps141 J ?_
  intro S w; refine Qy (Qx fun K hK => ?_); refine Qj J J J (Qv (hK _ _ (Qz (Qy (Qy ?_))))); clear hK K; refine Qx (fun K hK => ?_); refine Qq J J J (Qq J J J (Q3 J J sNat.und (List.length_map ..) J (Qk ilss J J J J (Qv (hK _ _ (Qz ?_)))))); clear hK K; refine Q1 J (fun h => ?_) (fun h => ?_)
  · have e2 : (i : Int).toNat = i := Int.toNat_natCast i; refine Qy (Qx fun K hK => ?_); refine Qq J J J (Qq J J J (Qc J J J sNat (by omega) (Xw (by omega) (by omega)) J ?_)); refine Ql J J J lInt J (Qj J J J (Qv (hK _ _ (Qz (QU (QV ?_)))))); clear hK K; rw [e2]; skip; refine QY [_] rfl (Qu J QQ) J J
  · refine Q0 (Qz (Qy (Qx fun K hK => ?_))); refine Qj J J J (Qv (hK _ _ (Qz (QU ?_)))); clear hK K; refine QY [_] rfl (Qu J QQ) (by rw [List.getD_eq_getElem?_getD, List.getElem?_eq_none (by omega)]; rfl) J
theorem gorlimb : InGo Tryz.prog 141 := InGo.of Tryz.func141 (by kernel_rfl) (by kernel_rfl)
theorem limbs_top {n : Nat} (h : 0 < (limbs n).length) : (limbs n).getD ((limbs n).length - 1) 0 ≠ 0 := fun h0 => by
  have h1 := trim_last h h0
  rw [trim_of_limbs] at h1
  have h2 := trim_len ((limbs n).take ((limbs n).length - 1))
  rw [h1] at h2
  simp at h2; omega
theorem getD_past {xs : List Int} {i : Nat} (h : xs.length ≤ i) : xs.getD i 0 = 0 := by
  rw [List.getD_eq_getElem?_getD, List.getElem?_eq_none (by omega)]; rfl
set_option maxHeartbeats 2000000 in
theorem Yi (a b : Nat) (ha : (limbs a).length ≤ 1000000) (hb : (limbs b).length ≤ 1000000) : Ok Tryz.prog 104 [natC a, natC b] (natC (a + b)) := by
  refine Ok.enter Tryz.func104 J _ Tryz.ntmps104 J ?_
  intro S w; refine Qy (Qx fun K hK => ?_); refine Qj J J J (Qv (hK _ _ (Qz (Qy ?_)))); clear hK K; refine Qx (fun K hK => ?_); refine Qj J J J (Qv (hK _ _ (Qz (Qy ?_)))); clear hK K; refine Qx (fun K hK => ?_); refine Qj J J J (Qv (hK _ _ (Qz (Qy (Qy ?_))))); clear hK K; refine Qx (fun K hK => ?_); refine Qj J J J (Qv (hK _ _ (Qz (Q4 ?_)))); clear hK K
  refine Zx 5 0 3 1 J J J ?_
  skip
  refine Qn (α := Nat × List Int × Int) (fun s => s.2.1.length = s.1 ∧ OKL s.2.1 ∧ 0 ≤ s.2.2 ∧ s.2.2 ≤ 1 ∧ (s.1 ≤ max (limbs a).length (limbs b).length ∨ s.2.2 = 0) ∧ s.1 ≤ max (limbs a).length (limbs b).length + 1 ∧ val s.2.1 + s.2.2 * BB ^ s.1 = pre (limbs a) s.1 + pre (limbs b) s.1 ∧
      (max (limbs a).length (limbs b).length ≤ s.1 → s.2.2 = 0 → trimL s.2.1 = s.2.1))
    (fun s => [(0, .ct (natC a)), (1, .ct (natC b)), (5, .own 0), (6, .ct (intC s.2.2)), (7, .ct (intC s.1))]) (fun s => [(0, .row 3 1 (ints s.2.1))])
    (fun s => 2 * (max (limbs a).length (limbs b).length - s.1) + s.2.2.toNat) (0, [], 0) ⟨rfl, OKL.nil, by decide, by decide, .inr J, Nat.zero_le _, by simp [val, Xr], fun _ _ => rfl⟩ (by exact QJ J ⟨rfl, rfl, rfl, rfl, rfl, trivial⟩) ?_
  rintro ⟨i, zs, c⟩ ⟨hz, hok, hc0, hc1, hor, hi, hv, ht⟩
  dsimp only at hz hok hc0 hc1 hor hi hv ht ⊢; have b1 := (XQ a).get i; have b2 := (XQ b).get i; have t1 := limbs_top (n := a); have t2 := limbs_top (n := b); have p1 := getD_past (xs := limbs a) (i := i); have p2 := getD_past (xs := limbs b) (i := i); simp only [BB] at b1 b2
  have step : ((i : Int) < (limbs a).length ∨ (i : Int) < (limbs b).length ∨ 0 < c) →
      (2 * (max (limbs a).length (limbs b).length - (i + 1)) + ((((limbs a).getD i 0 + (limbs b).getD i 0 + c) / 1073741824).toNat) < 2 * (max (limbs a).length (limbs b).length - i) + c.toNat) ∧
      ((zs ++ [((limbs a).getD i 0 + (limbs b).getD i 0 + c) % 1073741824]).length = i + 1 ∧ OKL (zs ++ [((limbs a).getD i 0 + (limbs b).getD i 0 + c) % 1073741824]) ∧ 0 ≤ ((limbs a).getD i 0 + (limbs b).getD i 0 + c) / 1073741824 ∧ ((limbs a).getD i 0 + (limbs b).getD i 0 + c) / 1073741824 ≤ 1 ∧ (i + 1 ≤ max (limbs a).length (limbs b).length ∨ ((limbs a).getD i 0 + (limbs b).getD i 0 + c) / 1073741824 = 0) ∧ i + 1 ≤ max (limbs a).length (limbs b).length + 1 ∧ val (zs ++ [((limbs a).getD i 0 + (limbs b).getD i 0 + c) % 1073741824]) + ((limbs a).getD i 0 + (limbs b).getD i 0 + c) / 1073741824 * BB ^ (i + 1) = pre (limbs a) (i + 1) + pre (limbs b) (i + 1) ∧
      (max (limbs a).length (limbs b).length ≤ i + 1 → ((limbs a).getD i 0 + (limbs b).getD i 0 + c) / 1073741824 = 0 → trimL (zs ++ [((limbs a).getD i 0 + (limbs b).getD i 0 + c) % 1073741824]) = zs ++ [((limbs a).getD i 0 + (limbs b).getD i 0 + c) % 1073741824])) := by
    intro hgo; refine ⟨by omega, by simp [hz], hok.append (OKL.cons (by simp only [BB]; omega) OKL.nil), by omega, by omega, by omega, by omega, ?_, ?_⟩
    · rw [Yq, hz, XY, XY]; have e := Int.mul_ediv_add_emod ((limbs a).getD i 0 + (limbs b).getD i 0 + c) 1073741824; clear t1 t2 p1 p2 ht hor hgo; simp only [val, BB] at *; generalize ((limbs a).getD i 0 + (limbs b).getD i 0 + c) / 1073741824 = q at *; generalize ((limbs a).getD i 0 + (limbs b).getD i 0 + c) % 1073741824 = m at *
      grind
    · intro hm hcz
      refine trim_id ?_
      have hx : (limbs a).getD i 0 + (limbs b).getD i 0 + c ≠ 0 := by
        rcases hgo with hg | hg | hg
        · rcases Nat.lt_or_ge (i + 1) (limbs a).length with h5 | h5
          · omega
          · have e5 : (limbs a).length - 1 = i := by omega
            rw [e5] at t1; have := t1 (by omega); omega
        · rcases Nat.lt_or_ge (i + 1) (limbs b).length with h5 | h5
          · omega
          · have e5 : (limbs b).length - 1 = i := by omega
            rw [e5] at t2; have := t2 (by omega); omega
        · omega
      omega
  have fin : ¬ ((i : Int) < (limbs a).length ∨ (i : Int) < (limbs b).length ∨ 0 < c) → natC (a + b) = intsC zs := by
    intro hgo
    have hc : c = 0 := by omega
    have h1 := ht (by omega) hc; rw [hc, Int.zero_mul, Zv (by omega), Zv (by omega), X7, X7] at hv; rw [show intsC zs = intsC (trimL zs) by rw [h1], Xt hok, show (val zs).toNat = a + b by omega]
  have e2 : (i : Int).toNat = i := Int.toNat_natCast i; clear ht hor t1 t2 p1 p2; refine Qy (Qy (Qx fun K hK => ?_)); refine Qq J J J (Qq J J J (Q3 J J sNat.und (List.length_map ..) J (Qk ilss J J J J (Qq J J J (Qi 13 J (fun g1 => ?_) (fun g1 => ?_))))))
  · have st := step (.inl g1); clear step fin; refine Qw J J J (Qw J J J (Qw J J J (Qw J J J (Q6 J J J J (Qq J J J (Qw J J J (Qw J J J (Q6 J J J J (Qv (hK _ _ (Qz (Xq J (Q0 (Qz (Qy (Q4 (Qy ?_))))))))))))))))); clear hK K; refine Qx (fun K hK => ?_); refine Qq J J J (Qq J J J (QX gorlimb (Yt (limbs a) i) J J J J (Qq J J J (Qq J J J (QX gorlimb (Yt (limbs b) i) J J J J (Qk (iadd (by omega) (by omega)) J J J J ?_)))))); refine Qq J J J (Qk (iadd (by omega) (by omega)) J J J J ?_); refine Qj J J J (Qv (hK _ _ (Qz (Qy ?_)))); clear hK K; refine Qx (fun K hK => ?_); refine Qq J J J (Qq J J J (Qk (irem (by omega) (by omega)) J J J J ?_)); refine XZ J J sNat J J J (Qt zs.length (ints (zs ++ [((limbs a).getD i 0 + (limbs b).getD i 0 + c) % 1073741824])) J J J J sNat (by simp [ints]) J (by omega) (by omega) (by simp [ints]) J ?_); refine Qj J J J (Qv (hK _ _ (Qz ?_))); clear hK K; refine Qx (fun K hK => ?_); refine Qq J J J (Qk (iquo (by omega) (by omega) (by omega)) J J J J ?_); refine Qj J J J (Qv (hK _ _ (Qz ?_))); clear hK K; refine Qx (fun K hK => ?_); refine Qq J J J (Qk (iadd (by omega) (by omega)) J J J J ?_); refine Qj J J J (Qv (hK _ _ (Q7 ?_)))
    clear hK K; refine Qb (i + 1, zs ++ [((limbs a).getD i 0 + (limbs b).getD i 0 + c) % 1073741824], ((limbs a).getD i 0 + (limbs b).getD i 0 + c) / 1073741824) st.1 st.2 (by exact QJ J ⟨rfl, rfl, rfl, rfl, by simp only [Int.natCast_add]; rfl, trivial⟩)
  · refine Qq J J J (Qq J J J (Q3 J J sNat.und (List.length_map ..) J (Qk ilss J J J J (Q2 J J J J (Qq J J J (Qi 19 J (fun g2 => ?_) (fun g2 => ?_)))))))
    · have st := step (.inr (.inl g2)); clear step fin; refine Qw J J J (Qw J J J (Q6 J J J J (Qv (hK _ _ (Qz (Xq J (Q0 (Qz (Qy (Q4 (Qy ?_))))))))))); clear hK K; refine Qx (fun K hK => ?_); refine Qq J J J (Qq J J J (QX gorlimb (Yt (limbs a) i) J J J J (Qq J J J (Qq J J J (QX gorlimb (Yt (limbs b) i) J J J J (Qk (iadd (by omega) (by omega)) J J J J ?_)))))); refine Qq J J J (Qk (iadd (by omega) (by omega)) J J J J ?_); refine Qj J J J (Qv (hK _ _ (Qz (Qy ?_)))); clear hK K; refine Qx (fun K hK => ?_); refine Qq J J J (Qq J J J (Qk (irem (by omega) (by omega)) J J J J ?_)); refine XZ J J sNat J J J (Qt zs.length (ints (zs ++ [((limbs a).getD i 0 + (limbs b).getD i 0 + c) % 1073741824])) J J J J sNat (by simp [ints]) J (by omega) (by omega) (by simp [ints]) J ?_); refine Qj J J J (Qv (hK _ _ (Qz ?_))); clear hK K; refine Qx (fun K hK => ?_); refine Qq J J J (Qk (iquo (by omega) (by omega) (by omega)) J J J J ?_); refine Qj J J J (Qv (hK _ _ (Qz ?_))); clear hK K; refine Qx (fun K hK => ?_); refine Qq J J J (Qk (iadd (by omega) (by omega)) J J J J ?_); refine Qj J J J (Qv (hK _ _ (Q7 ?_))); clear hK K
      refine Qb (i + 1, zs ++ [((limbs a).getD i 0 + (limbs b).getD i 0 + c) % 1073741824], ((limbs a).getD i 0 + (limbs b).getD i 0 + c) / 1073741824) st.1 st.2 (by exact QJ J ⟨rfl, rfl, rfl, rfl, by simp only [Int.natCast_add]; rfl, trivial⟩)
    · refine Qq J J J (Qk igtr J J J J (Q2 J J J J (Qv (hK _ _ (Qz ?_))))); clear hK K; refine Q1 J (fun g3 => ?_) (fun g3 => ?_)
      · have st := step (.inr (.inr g3)); clear step fin; refine Q0 (Qz (Qy (Q4 (Qy (Qx fun K hK => ?_))))); refine Qq J J J (Qq J J J (QX gorlimb (Yt (limbs a) i) J J J J (Qq J J J (Qq J J J (QX gorlimb (Yt (limbs b) i) J J J J (Qk (iadd (by omega) (by omega)) J J J J ?_)))))); refine Qq J J J (Qk (iadd (by omega) (by omega)) J J J J ?_); refine Qj J J J (Qv (hK _ _ (Qz (Qy ?_)))); clear hK K; refine Qx (fun K hK => ?_); refine Qq J J J (Qq J J J (Qk (irem (by omega) (by omega)) J J J J ?_)); refine XZ J J sNat J J J (Qt zs.length (ints (zs ++ [((limbs a).getD i 0 + (limbs b).getD i 0 + c) % 1073741824])) J J J J sNat (by simp [ints]) J (by omega) (by omega) (by simp [ints]) J ?_); refine Qj J J J (Qv (hK _ _ (Qz ?_))); clear hK K; refine Qx (fun K hK => ?_); refine Qq J J J (Qk (iquo (by omega) (by omega) (by omega)) J J J J ?_); refine Qj J J J (Qv (hK _ _ (Qz ?_))); clear hK K; refine Qx (fun K hK => ?_); refine Qq J J J (Qk (iadd (by omega) (by omega)) J J J J ?_); refine Qj J J J (Qv (hK _ _ (Q7 ?_))); clear hK K
        refine Qb (i + 1, zs ++ [((limbs a).getD i 0 + (limbs b).getD i 0 + c) % 1073741824], ((limbs a).getD i 0 + (limbs b).getD i 0 + c) / 1073741824) st.1 st.2 (by exact QJ J ⟨rfl, rfl, rfl, rfl, by simp only [Int.natCast_add]; rfl, trivial⟩)
      · have fe := fin (by omega); refine X6 0 _ J (X1 _ _) XV (Qm (Qz (Qy (Qx fun K hK => ?_)))); refine Qq J J J (Qj J J J (Qv (hK _ _ (Qz (QU ?_))))); clear hK K; refine QY [_] rfl (Qu J QQ) (by rw [fe]; rfl) J
theorem gorPlus : InGo Tryz.prog 104 := InGo.of Tryz.func104 (by kernel_rfl) (by kernel_rfl)
theorem val_sub_done {a b : Nat} {zs : List Int} {c : Int} (hok : OKL zs) (hzl : zs.length = (limbs a).length) (hb : b ≤ a) (hc0 : 0 ≤ c) (hc1 : c ≤ 1)
    (hv : val zs - c * BB ^ (limbs a).length = pre (limbs a) (limbs a).length - pre (limbs b) (limbs a).length) : trimL zs = limbs (a - b) := by
  have hlb := Xu hb; rw [Xt hok]; rw [Zv (Nat.le_refl _), Zv hlb, X7, X7] at hv; have hp : 0 < BB ^ (limbs a).length := Int.pow_pos (by decide); have h1 := Zn hok (limbs a).length; rw [Zv (by omega)] at h1
  have hc : c = 0 := by
    rcases Int.lt_or_le 0 c with hc | hc
    · have : c = 1 := by omega
      subst this; rw [Int.one_mul] at hv; omega
    · omega
  subst hc; rw [Int.zero_mul] at hv
  congr 1; omega
theorem less_step {v c P A B x y d c' K : Int} (h : v - c * P = A - B) (e : x - y - c = d - c' * K) : v + P * d - c' * (P * K) = (A + x * P) - (B + y * P) := by
  have h2 : P * (x - y - c) = P * (d - c' * K) := by rw [e]
  grind
set_option maxHeartbeats 2000000 in
theorem rLess_ok (a b : Nat) (hb : b ≤ a) (hx : (limbs a).length ≤ 1000000) : Ok Tryz.prog 144 [natC a, natC b] (natC (a - b)) := by
  refine Ok.enter Tryz.func144 J _ Tryz.ntmps144 J ?_
  intro S w; refine Qy (Qx fun K hK => ?_); refine Qj J J J (Qv (hK _ _ (Qz (Qy ?_)))); clear hK K; refine Qx (fun K hK => ?_); refine Qj J J J (Qv (hK _ _ (Qz (Qy ?_)))); clear hK K; refine Qx (fun K hK => ?_); refine Qj J J J (Qv (hK _ _ (Qz (Qy (Qy ?_))))); clear hK K; refine Qx (fun K hK => ?_); refine Qj J J J (Qv (hK _ _ (Qz (Q4 ?_)))); clear hK K
  refine Zx 5 0 3 1 J J J ?_
  skip
  refine Qn (α := Nat × List Int × Int) (fun s => s.1 ≤ (limbs a).length ∧ s.2.1.length = s.1 ∧ OKL s.2.1 ∧ 0 ≤ s.2.2 ∧ s.2.2 ≤ 1 ∧ val s.2.1 - s.2.2 * BB ^ s.1 = pre (limbs a) s.1 - pre (limbs b) s.1)
    (fun s => [(0, .ct (natC a)), (1, .ct (natC b)), (5, .own 0), (6, .ct (intC s.2.2)), (7, .ct (intC s.1))])
    (fun s => [(0, .row 3 1 (ints s.2.1))])
    (fun s => (limbs a).length - s.1) (0, [], 0) ⟨Nat.zero_le _, rfl, OKL.nil, by decide, by decide, by simp [val, Xr]⟩ (by exact QJ J ⟨rfl, rfl, rfl, rfl, rfl, trivial⟩) ?_
  rintro ⟨i, zs, c⟩ ⟨hi, hz, hok, hc0, hc1, hv⟩
  dsimp only at hi hz hok hc0 hc1 hv ⊢; refine Qy (Qy (Qx fun K hK => ?_)); refine Qq J J J (Qq J J J (Q3 J J sNat.und (List.length_map ..) J (Qk ilss J J J J (Qv (hK _ _ (Qz ?_)))))); clear hK K; refine Q1 J (fun h => ?_) (fun h => ?_)
  · have b1 := (XQ a).get i; have b2 := (XQ b).get i; simp only [BB] at b1 b2; have e2 : (i : Int).toNat = i := Int.toNat_natCast i; refine Q0 (Qz (Qy (Q4 (Qy ?_)))); refine Xz mixed 11 (.p 0 (.p 1 (.p 2 (.p 4 (.p 5 (.p 8 (.f 3 (.m 6 (.p 7 (.p 9 (.p 10 .done))))))))))) (by kernel_rfl) (fun K hK => ?_); refine Qq J J J (Qq J J J (Qc J J J sNat (by omega) (Xw (by omega) (by omega)) J ?_)); refine Qq J J J (Qq J J J (Qq J J J (Ql J J J lInt J ?_))); rw [e2]; skip; refine QX gorlimb (Yt (limbs b) i) J J J J (Qk (isub (by omega) (by omega)) J J J J ?_)
    refine Qk (isub (by omega) (by omega)) J J J J ?_
    refine Qj J J J (Qv (hK _ _ (Qz (Qy ?_)))); clear hK K; refine Qx (fun K hK => ?_); refine Qj J J J (Qv (hK _ _ (Qz (Qy (Qy ?_))))); clear hK K; refine Qx (fun K hK => ?_); refine Qq J J J (Qk ilss J J J J (Qv (hK _ _ (Qz ?_)))); clear hK K; refine Q1 J (fun h2 => ?_) (fun h2 => ?_)
    · refine Qy (Qx fun K hK => ?_); refine Qq J J J (Qk (iadd (by omega) (by omega)) J J J J ?_); refine Qj J J J (Qv (hK _ _ (Qz ?_))); clear hK K; refine Qx (fun K hK => ?_); refine Qj J J J (Qv (hK _ _ (Qz ?_))); clear hK K; refine Qx (fun K hK => ?_); refine Qq J J J (Qq J J J (XZ J J sNat J J J (Qt zs.length (ints (zs ++ [(limbs a).getD i 0 - (limbs b).getD i 0 - c + 1073741824])) J J J J sNat (by simp [ints]) J (by omega) (by omega) (by simp [ints]) J ?_))); refine Qj J J J (Qv (hK _ _ (Qz ?_))); clear hK K; refine Qx (fun K hK => ?_); refine Qq J J J (Qk (iadd (by omega) (by omega)) J J J J ?_); refine Qj J J J (Qv (hK _ _ (Q7 ?_))); clear hK K; refine Qb (i + 1, zs ++ [(limbs a).getD i 0 - (limbs b).getD i 0 - c + 1073741824], 1) (by dsimp only; omega) ⟨by dsimp only; omega, by simp [hz], ?_, by show (0 : Int) ≤ 1; decide, by show (1 : Int) ≤ 1; decide, ?_⟩ (by exact QJ J ⟨rfl, rfl, rfl, rfl, by simp only [Int.natCast_add]; rfl, trivial⟩)
      all_goals dsimp only
      · exact hok.append (OKL.cons (by simp only [BB]; omega) OKL.nil)
      · rw [Yq, hz, XY, XY, Int.pow_succ]; simp only [val, Int.mul_zero, Int.add_zero]; exact less_step hv (by simp only [BB]; omega)
    · refine Q0 (Qz (Qx fun K hK => ?_)); refine Qq J J J (Qq J J J (XZ J J sNat J J J (Qt zs.length (ints (zs ++ [(limbs a).getD i 0 - (limbs b).getD i 0 - c])) J J J J sNat (by simp [ints]) J (by omega) (by omega) (by simp [ints]) J ?_))); refine Qj J J J (Qv (hK _ _ (Qz ?_))); clear hK K; refine Qx (fun K hK => ?_); refine Qq J J J (Qk (iadd (by omega) (by omega)) J J J J ?_); refine Qj J J J (Qv (hK _ _ (Q7 ?_))); clear hK K; refine Qb (i + 1, zs ++ [(limbs a).getD i 0 - (limbs b).getD i 0 - c], 0) (by dsimp only; omega) ⟨by dsimp only; omega, by simp [hz], ?_, by show (0 : Int) ≤ 0; decide, by show (0 : Int) ≤ 1; decide, ?_⟩ (by exact QJ J ⟨rfl, rfl, rfl, rfl, by simp only [Int.natCast_add]; rfl, trivial⟩)
      all_goals dsimp only
      · exact hok.append (OKL.cons (by simp only [BB]; omega) OKL.nil)
      · rw [Yq, hz, XY, XY, Int.pow_succ]; simp only [val, Int.mul_zero, Int.add_zero]; exact less_step hv (by simp only [BB]; omega)
  · have hi' : i = (limbs a).length := by omega
    subst hi'; have e4 := val_sub_done hok hz hb hc0 hc1 hv; refine X6 0 _ J (X1 _ _) XV (Qm (Qz (Qy (Qx fun K hK => ?_)))); refine Qq J J J (QX gorTrim (rTrim_ok zs (by omega)) J J J J ?_); rw [e4]; refine Qj J J J (Qv (hK _ _ (Qz (QU ?_)))); clear hK K; refine QY [_] rfl (Qu J QQ) J J
theorem gorLess : InGo Tryz.prog 144 := InGo.of Tryz.func144 (by kernel_rfl) (by kernel_rfl)
set_option maxHeartbeats 2000000 in
theorem rhalf_ok (a : Nat) (hl : (limbs a).length ≤ 1000000) : Ok Tryz.prog 161 [natC a] (natC (a / 2)) := by
  refine Ok.enter Tryz.func161 J _ Tryz.ntmps161 J ?_
  intro S w; refine Qy (Qx fun K hK => ?_); refine Qj J J J (Qv (hK _ _ (Qz (Qy ?_)))); clear hK K; refine Qx (fun K hK => ?_); refine Qq J J J (Q3 J J sNat.und (List.length_map ..) J (Z5 0 (limbs a).length J J J J sNat (by omega) (by omega) J J J ?_)); rw [ints_made]; refine Qj J J J (Qv (hK _ _ (Qz (Qy ?_)))); clear hK K; refine Qx (fun K hK => ?_); refine Qj J J J (Qv (hK _ _ (Qz (Qy (Qy ?_))))); clear hK K; refine Qx (fun K hK => ?_); refine Qq J J J (Q3 J J sNat.und (List.length_map ..) J (Qk (isub (by omega) (by omega)) J J J J ?_)); refine Qj J J J (Qv (hK _ _ (Qz (Q4 ?_)))); clear hK K
  refine Qn (α := Nat × List Int × Int) (fun s => s.1 ≤ (limbs a).length ∧ s.2.1.length = (limbs a).length ∧ OKL s.2.1 ∧ (∀ j, j < s.1 → s.2.1.getD j 0 = 0) ∧ 0 ≤ s.2.2 ∧ s.2.2 < 2 ∧ val s.2.1 * 2 + s.2.2 * BB ^ s.1 = val (limbs a) - pre (limbs a) s.1)
    (fun s => [(0, .ct (natC a)), (3, .own 0), (4, .ct (intC s.2.2)), (5, .ct (intC ((s.1 : Int) - 1)))])
    (fun s => [(0, .row 3 1 (ints s.2.1))]) (fun s => s.1) ((limbs a).length, List.replicate (limbs a).length 0, 0) ⟨Nat.le_refl _, by simp, OKL.zeros _, ?_, Int.le_refl _, by show (0 : Int) < 2; decide, ?_⟩ (by exact QJ J ⟨rfl, rfl, rfl, rfl, trivial⟩) ?_
  · intro j _; simp [List.getD_eq_getElem?_getD, List.getElem?_replicate]; split <;> rfl
  · dsimp only; rw [YZ, Zv (Nat.le_refl _)]; simp
  rintro ⟨q, zs, rest⟩ ⟨hq, hzl, hok, hz, hr0, hr1, hv⟩
  dsimp only at hq hzl hok hz hr0 hr1 hv ⊢; refine Qy (Qy (Qx fun K hK => ?_)); refine Qq J J J (Qk igeq J J J J (Qv (hK _ _ (Qz ?_)))); clear hK K; refine Q1 J (fun h => ?_) (fun h => ?_)
  · obtain ⟨i, rfl⟩ : ∃ i, q = i + 1 := ⟨q - 1, by omega⟩
    have e1 : (((i + 1 : Nat) : Int) - 1) = (i : Int) := by omega
    have e2 : (i : Int).toNat = i := Int.toNat_natCast i
    have e3 : (i : Int).toNat * 1 = i := by omega
    have bx := (XQ a).get i; simp only [BB] at bx; rw [e1]; refine Q0 (Qz (Qy (Q4 (Qy (Qx fun K hK => ?_))))); refine Qq J J J (Qq J J J (Qc J J J sNat (by omega) (Xw (by omega) (by omega)) J ?_)); refine Ql J J J lInt J (Qq J J J (Qk (imul (by omega) (by omega)) J J J J ?_)); rw [e2]
    refine Qk (iadd (by omega) (by omega)) J J J J ?_
    refine Qj J J J (Qv (hK _ _ (Qz (Qy ?_)))); clear hK K; refine Qx (fun K hK => ?_); refine Qq J J J (Qq J J J (Qq J J J (Qk (iquo (by omega) (by omega) (by omega)) J J J J ?_))); rw [show (limbs a).getD i 0 + rest * 1073741824 = rest * 1073741824 + (limbs a).getD i 0 from Int.add_comm _ _]; skip
    refine XX (limbs a).length J J J (by simp [ints]; omega) J sNat (by omega) (by omega) J ?_
    rw [e3]
    refine Xv J J J J J zInt (by simp [Ent.cs, ints]; omega) ?_
    simp only [Ent.setc, ZV]; refine Qv (hK _ _ (Qz ?_)); clear hK K; refine Qx (fun K hK => ?_); refine Qq J J J (Qk (irem (by omega) (by omega)) J J J J ?_); refine Qj J J J (Qv (hK _ _ (Qz ?_))); clear hK K; refine Qx (fun K hK => ?_); refine Qq J J J (Qk (isub (by omega) (by omega)) J J J J ?_); refine Qj J J J (Qv (hK _ _ (Q7 ?_))); clear hK K; refine Qb (i, zs.set i ((rest * 1073741824 + (limbs a).getD i 0) / 2), (rest * 1073741824 + (limbs a).getD i 0) % 2) (by dsimp only; omega) ⟨by dsimp only; omega, by simp [hzl], ?_, ?_, by dsimp only; omega, by dsimp only; omega, ?_⟩ (by exact QJ J ⟨rfl, rfl, rfl, rfl, trivial⟩)
    all_goals dsimp only
    · exact hok.set _ (by simp only [BB]; omega)
    · intro j hj; rw [getD_set (by omega), if_neg (by omega)]; exact hz j (by omega)
    · rw [Ys (by omega), hz i (by omega), Int.sub_zero]; exact top_step hv
  · have hq0 : q = 0 := by omega
    subst hq0
    have e4 : val zs * 2 + rest = a := by rw [Xr, X7] at hv; simpa using hv
    have e5 : (val zs).toNat = a / 2 := by omega
    refine X6 0 _ J (X1 _ _) XV (Qm (Qz (Qy (Qx fun K hK => ?_)))); refine Qq J J J (QX gorTrim (rTrim_ok zs (by omega)) J J J J ?_); rw [Xt hok, e5]; refine Qj J J J (Qv (hK _ _ (Qz (QU ?_)))); clear hK K; refine QY [_] rfl (Qu J QQ) J J
theorem gorhalf : InGo Tryz.prog 161 := InGo.of Tryz.func161 (by kernel_rfl) (by kernel_rfl)
set_option maxHeartbeats 4000000 in
theorem rTimes_ok (a b : Nat) (hx : (limbs a).length + (limbs b).length ≤ 1000000) : Ok Tryz.prog 94 [natC a, natC b] (natC (a * b)) := by
  refine Ok.enter Tryz.func94 Y _ Tryz.ntmps94 Y ?_
  intro S w; refine Qy (Qx fun K hK => ?_); refine Qj Y Y Y (Qv (hK _ _ (Qz (Qy ?_)))); clear hK K; refine Qx (fun K hK => ?_); refine Qq Y Y Y (Q3 Y Y sNat.und (List.length_map ..) Y (Qq Y Y Y (Q3 Y Y sNat.und (List.length_map ..) Y (Qk (iadd (by omega) (by omega)) Y Y Y Y ?_))))
  refine Z5 0 ((limbs a).length + (limbs b).length) Y Y Y (by omega) sNat (by omega) (by omega) Y Y Y ?_
  rw [ints_made]; refine Qj Y Y Y (Qv (hK _ _ (Qz (Qy (Qy ?_))))); clear hK K; refine Qx (fun K hK => ?_); refine Qj Y Y Y (Qv (hK _ _ (Qz (Q4 ?_)))); clear hK K
  refine Qn (α := Nat × List Int) (fun s => s.1 ≤ (limbs a).length ∧ s.2.length = (limbs a).length + (limbs b).length ∧ OKL s.2 ∧ (∀ j, s.1 + (limbs b).length ≤ j → s.2.getD j 0 = 0) ∧ val s.2 = pre (limbs a) s.1 * b)
    (fun s => [(0, .ct (natC a)), (1, .ct (natC b)), (5, .own 0), (6, .ct (intC s.1))])
    (fun s => [(0, .row 3 1 (ints s.2))])
    (fun s => (limbs a).length - s.1) (0, List.replicate ((limbs a).length + (limbs b).length) 0) ⟨Nat.zero_le _, by simp, OKL.zeros _, ?_, ?_⟩ (by exact QJ Y ⟨rfl, rfl, rfl, rfl, trivial⟩) ?_
  · intro j _; simp [List.getD_eq_getElem?_getD, List.getElem?_replicate]; split <;> rfl
  · rw [Xr, YZ]; simp
  rintro ⟨i, out⟩ ⟨hi, hlen, hok, hz, hv⟩
  dsimp only at hi hlen hok hz hv ⊢; refine Qy (Qy (Qx fun K hK => ?_)); refine Qq Y Y Y (Qq Y Y Y (Q3 Y Y sNat.und (List.length_map ..) Y (Qk ilss Y Y Y Y (Qv (hK _ _ (Qz ?_)))))); clear hK K; refine Q1 Y (fun h => ?_) (fun h => ?_)
  · have bx := (XQ a).get i; have eix : (i : Int).toNat = i := Int.toNat_natCast i; refine Q0 (Qz (Qy (Q4 (Qy (Qx fun K hK => ?_))))); refine Qj Y Y Y (Qv (hK _ _ (Qz (Qy ?_)))); clear hK K; refine Qx (fun K hK => ?_); refine Qj Y Y Y (Qv (hK _ _ (Qz (Q4 ?_)))); clear hK K
    refine Qn (α := Nat × List Int × Int) (fun s => (s.1 ≤ (limbs b).length ∨ s.2.2 = 0) ∧ s.1 ≤ (limbs b).length + 1 ∧ s.2.1.length = (limbs a).length + (limbs b).length ∧ OKL s.2.1 ∧ (∀ j, i + (limbs b).length + 1 ≤ j → s.2.1.getD j 0 = 0) ∧ (s.1 ≤ (limbs b).length → s.2.1.getD (i + (limbs b).length) 0 = 0) ∧ 0 ≤ s.2.2 ∧ s.2.2 < BB ∧
        val s.2.1 + s.2.2 * BB ^ (i + s.1) = val out + (limbs a).getD i 0 * pre (limbs b) s.1 * BB ^ i)
      (fun s => [(0, .ct (natC a)), (1, .ct (natC b)), (5, .own 0), (6, .ct (intC i)), (7, .ct (intC s.2.2)), (8, .ct (intC s.1))])
      (fun s => [(0, .row 3 1 (ints s.2.1))])
      (fun s => (limbs b).length + 2 - s.1) (0, out, 0) ⟨.inr Y, Nat.zero_le _, hlen, hok, fun j hj => hz j (by omega), fun _ => hz _ (Nat.le_refl _), Int.le_refl _, by show (0 : Int) < BB; decide, by rw [Xr]; simp⟩ (by exact QJ Y ⟨rfl, rfl, rfl, rfl, rfl, rfl, trivial⟩) ?_
    rintro ⟨q, zs, c⟩ ⟨hqc, hq, hzl, hzok, hzz, hzt, hc0, hc1, hzv⟩
    dsimp only at hqc hq hzl hzok hzz hzt hc0 hc1 hzv ⊢
    have by' := (XQ b).get q
    have bz := hzok.get (i + q)
    have bm := mul_bd bx by'
    have hpast := getD_past (xs := limbs b) (i := q); simp only [BB] at bz hc1 bx; have eq1 : (q : Int).toNat = q := Int.toNat_natCast q
    have eiq : ((i : Int) + q).toNat * 1 = i + q := by omega
    have step : q ≤ (limbs b).length →
        ((limbs b).length + 2 - (q + 1) < (limbs b).length + 2 - q) ∧ ((q + 1 ≤ (limbs b).length ∨ (zs.getD (i + q) 0 + (limbs a).getD i 0 * (limbs b).getD q 0 + c) / 1073741824 = 0) ∧ q + 1 ≤ (limbs b).length + 1 ∧ (zs.set (i + q) ((zs.getD (i + q) 0 + (limbs a).getD i 0 * (limbs b).getD q 0 + c) % 1073741824)).length = (limbs a).length + (limbs b).length ∧ OKL (zs.set (i + q) ((zs.getD (i + q) 0 + (limbs a).getD i 0 * (limbs b).getD q 0 + c) % 1073741824)) ∧ (∀ j, i + (limbs b).length + 1 ≤ j → (zs.set (i + q) ((zs.getD (i + q) 0 + (limbs a).getD i 0 * (limbs b).getD q 0 + c) % 1073741824)).getD j 0 = 0) ∧ (q + 1 ≤ (limbs b).length → (zs.set (i + q) ((zs.getD (i + q) 0 + (limbs a).getD i 0 * (limbs b).getD q 0 + c) % 1073741824)).getD (i + (limbs b).length) 0 = 0) ∧ 0 ≤ (zs.getD (i + q) 0 + (limbs a).getD i 0 * (limbs b).getD q 0 + c) / 1073741824 ∧ (zs.getD (i + q) 0 + (limbs a).getD i 0 * (limbs b).getD q 0 + c) / 1073741824 < BB ∧
        val (zs.set (i + q) ((zs.getD (i + q) 0 + (limbs a).getD i 0 * (limbs b).getD q 0 + c) % 1073741824)) + (zs.getD (i + q) 0 + (limbs a).getD i 0 * (limbs b).getD q 0 + c) / 1073741824 * BB ^ (i + (q + 1)) = val out + (limbs a).getD i 0 * pre (limbs b) (q + 1) * BB ^ i) := by
      intro hqb; refine ⟨by omega, ?_, by omega, by simp [hzl], hzok.set _ (by simp only [BB]; omega), ?_, ?_, by omega, by simp only [BB]; omega, ?_⟩
      · rcases Nat.lt_or_ge q (limbs b).length with h5 | h5
        · exact .inl h5
        · have h6 : q = (limbs b).length := by omega
          right; have := hzt hqb; rw [← h6] at this; rw [this, hpast h5, Int.mul_zero]; omega
      · intro j hj; rw [getD_set (by omega), if_neg (by omega)]; exact hzz j hj
      · intro h5; rw [getD_set (by omega), if_neg (by omega)]; exact hzt hqb
      · rw [Ys (by omega), XY, show i + (q + 1) = (i + q) + 1 by omega, Int.pow_succ, Int.pow_add]; rw [Int.pow_add] at hzv; have e := Int.mul_ediv_add_emod (zs.getD (i + q) 0 + (limbs a).getD i 0 * (limbs b).getD q 0 + c) 1073741824
        clear hpast hzt hzz hqc bm by' bz hz
        simp only [BB] at *; generalize (zs.getD (i + q) 0 + (limbs a).getD i 0 * (limbs b).getD q 0 + c) / 1073741824 = Q at *; generalize (zs.getD (i + q) 0 + (limbs a).getD i 0 * (limbs b).getD q 0 + c) % 1073741824 = M at *; generalize (1073741824 : Int) ^ i = I at *; generalize (1073741824 : Int) ^ q = J at *; generalize zs.getD (i + q) 0 = z at *; generalize (limbs a).getD i 0 = x at *; generalize (limbs b).getD q 0 = y at *; generalize pre (limbs b) q = pb at *; generalize val zs = vz at *; generalize val out = vo at *
        grind
    have fin : ¬ ((q : Int) < (limbs b).length) → ¬ (0 < c) → (i + 1 ≤ (limbs a).length ∧ zs.length = (limbs a).length + (limbs b).length ∧ OKL zs ∧ (∀ j, i + 1 + (limbs b).length ≤ j → zs.getD j 0 = 0) ∧ val zs = pre (limbs a) (i + 1) * b) := by
      intro g1 g2; refine ⟨by omega, hzl, hzok, fun j hj => hzz j (by omega), ?_⟩
      have hc : c = 0 := by omega
      rw [hc, Int.zero_mul, Int.add_zero, Zv (xs := limbs b) (by omega), X7, hv] at hzv; rw [hzv, XY]; grind
    refine Qy (Qy (Qx fun K hK => ?_)); refine Qq Y Y Y (Qq Y Y Y (Q3 Y Y sNat.und (List.length_map ..) Y (Qk ilss Y Y Y Y (Qq Y Y Y (Qi 26 Y (fun g1 => ?_) (fun g1 => ?_))))))
    · have st := step (by omega); clear step fin; refine Qw Y Y Y (Qw Y Y Y (Q6 Y Y Y Y (Qv (hK _ _ (Qz (Xq Y (Q0 (Qz (Qy (Q4 (Qy ?_))))))))))); clear hK K; refine Xz mixed 18 (.p 0 (.p 1 (.p 2 (.p 3 (.p 4 (.p 6 (.p 7 (.p 8 (.p 10 (.p 11 (.p 15 (.f 5 (.f 9 (.m 12 (.p 13 (.p 14 (.p 16 (.p 17 .done)))))))))))))))))) (by kernel_rfl) (fun K hK => ?_); refine Qq Y Y Y (Qq Y Y Y (Qq Y Y Y (Qk (iadd (by omega) (by omega)) Y Y Y Y ?_)))
      refine XX ((limbs a).length + (limbs b).length) Y Y Y (by simp [ints]; omega) Y sNat (by omega) (by omega) Y ?_
      rw [eiq]; refine Qq Y Y Y (Qq Y Y Y (Qc Y Y Y sNat (by omega) (Xw (by omega) (by omega)) Y ?_)); refine Qq Y Y Y (Qq Y Y Y (Qq Y Y Y ?_)); rw [eix]
      refine QK Y Y Y Y (Xs (by omega)) lInt Y ?_
      refine Ql Y Y Y lInt Y (QX gorlimb (Yt (limbs b) q) Y Y Y Y (Qk (imul (by omega) (by omega)) Y Y Y Y ?_))
      refine Qk (iadd (by omega) (by omega)) Y Y Y Y ?_
      refine Qk (iadd (by omega) (by omega)) Y Y Y Y ?_
      refine Qj Y Y Y (Qv (hK _ _ (Qz (Qy ?_)))); clear hK K; refine Qx (fun K hK => ?_); refine Qq Y Y Y (Qq Y Y Y (Qq Y Y Y (Qk (iadd (by omega) (by omega)) Y Y Y Y ?_))); refine Qq Y Y Y (Qk (irem (by omega) (by omega)) Y Y Y Y ?_)
      refine XX ((limbs a).length + (limbs b).length) Y Y Y (by simp [ints]; omega) Y sNat (by omega) (by omega) Y ?_
      rw [eiq]
      refine Xv Y Y Y Y Y zInt (by simp [Ent.cs, ints]; omega) ?_
      simp only [Ent.setc, ZV]; refine Qv (hK _ _ (Qz ?_)); clear hK K; refine Qx (fun K hK => ?_); refine Qq Y Y Y (Qk (iquo (by omega) (by omega) (by omega)) Y Y Y Y ?_); refine Qj Y Y Y (Qv (hK _ _ (Qz ?_))); clear hK K; refine Qx (fun K hK => ?_); refine Qq Y Y Y (Qk (iadd (by omega) (by omega)) Y Y Y Y ?_); refine Qj Y Y Y (Qv (hK _ _ (Q7 ?_))); clear hK K; refine Qb (q + 1, zs.set (i + q) ((zs.getD (i + q) 0 + (limbs a).getD i 0 * (limbs b).getD q 0 + c) % 1073741824), (zs.getD (i + q) 0 + (limbs a).getD i 0 * (limbs b).getD q 0 + c) / 1073741824) st.1 st.2 (by exact QJ Y ⟨rfl, rfl, rfl, rfl, rfl, by simp only [Int.natCast_add]; rfl, trivial⟩)
    · refine Qq Y Y Y (Qk igtr Y Y Y Y (Q2 Y Y Y Y (Qv (hK _ _ (Qz ?_))))); clear hK K; refine Q1 Y (fun g2 => ?_) (fun g2 => ?_)
      · have st := step (by omega); clear step fin; refine Q0 (Qz (Qy (Q4 (Qy ?_)))); refine Xz mixed 18 (.p 0 (.p 1 (.p 2 (.p 3 (.p 4 (.p 6 (.p 7 (.p 8 (.p 10 (.p 11 (.p 15 (.f 5 (.f 9 (.m 12 (.p 13 (.p 14 (.p 16 (.p 17 .done)))))))))))))))))) (by kernel_rfl) (fun K hK => ?_); refine Qq Y Y Y (Qq Y Y Y (Qq Y Y Y (Qk (iadd (by omega) (by omega)) Y Y Y Y ?_)))
        refine XX ((limbs a).length + (limbs b).length) Y Y Y (by simp [ints]; omega) Y sNat (by omega) (by omega) Y ?_
        rw [eiq]; refine Qq Y Y Y (Qq Y Y Y (Qc Y Y Y sNat (by omega) (Xw (by omega) (by omega)) Y ?_)); refine Qq Y Y Y (Qq Y Y Y (Qq Y Y Y ?_)); rw [eix]
        refine QK Y Y Y Y (Xs (by omega)) lInt Y ?_
        refine Ql Y Y Y lInt Y (QX gorlimb (Yt (limbs b) q) Y Y Y Y (Qk (imul (by omega) (by omega)) Y Y Y Y ?_))
        refine Qk (iadd (by omega) (by omega)) Y Y Y Y ?_
        refine Qk (iadd (by omega) (by omega)) Y Y Y Y ?_
        refine Qj Y Y Y (Qv (hK _ _ (Qz (Qy ?_)))); clear hK K; refine Qx (fun K hK => ?_); refine Qq Y Y Y (Qq Y Y Y (Qq Y Y Y (Qk (iadd (by omega) (by omega)) Y Y Y Y ?_))); refine Qq Y Y Y (Qk (irem (by omega) (by omega)) Y Y Y Y ?_)
        refine XX ((limbs a).length + (limbs b).length) Y Y Y (by simp [ints]; omega) Y sNat (by omega) (by omega) Y ?_
        rw [eiq]
        refine Xv Y Y Y Y Y zInt (by simp [Ent.cs, ints]; omega) ?_
        simp only [Ent.setc, ZV]; refine Qv (hK _ _ (Qz ?_)); clear hK K; refine Qx (fun K hK => ?_); refine Qq Y Y Y (Qk (iquo (by omega) (by omega) (by omega)) Y Y Y Y ?_); refine Qj Y Y Y (Qv (hK _ _ (Qz ?_))); clear hK K; refine Qx (fun K hK => ?_); refine Qq Y Y Y (Qk (iadd (by omega) (by omega)) Y Y Y Y ?_); refine Qj Y Y Y (Qv (hK _ _ (Q7 ?_))); clear hK K; refine Qb (q + 1, zs.set (i + q) ((zs.getD (i + q) 0 + (limbs a).getD i 0 * (limbs b).getD q 0 + c) % 1073741824), (zs.getD (i + q) 0 + (limbs a).getD i 0 * (limbs b).getD q 0 + c) / 1073741824) st.1 st.2 (by exact QJ Y ⟨rfl, rfl, rfl, rfl, rfl, by simp only [Int.natCast_add]; rfl, trivial⟩)
      · have fe := fin g1 g2; clear step fin; refine Qm (Qz (Qx fun K hK => ?_)); refine Qq Y Y Y (Qk (iadd (by omega) (by omega)) Y Y Y Y ?_); refine Qj Y Y Y (Qv (hK _ _ (Q7 ?_))); clear hK K; refine Qb (i + 1, zs) (by dsimp only; omega) fe (by exact QJ Y ⟨rfl, rfl, rfl, by simp only [Int.natCast_add]; rfl, trivial⟩)
  · have hi' : i = (limbs a).length := by omega
    have e4 : trimL out = limbs (a * b) := by
      rw [Xt hok, hv, hi', Zv (Nat.le_refl _), X7]
      congr 1
    refine X6 0 _ Y (X1 _ _) XV (Qm (Qz (Qy (Qx fun K hK => ?_)))); refine Qq Y Y Y (QX gorTrim (rTrim_ok out (by omega)) Y Y Y Y ?_); rw [e4]; refine Qj Y Y Y (Qv (hK _ _ (Qz (QU ?_)))); clear hK K; refine QY [_] rfl (Qu Y QQ) Y Y
theorem gorTimes : InGo Tryz.prog 94 := InGo.of Tryz.func94 (by kernel_rfl) (by kernel_rfl)
theorem uU64 : Tryz.prog.underlying 149 = some (.int .u64) := Tryz.underlying149
theorem uI64 : Tryz.prog.underlying 3 = some (.int .i64) := Tryz.underlying3
abbrev wordC (x : Int) : CT := .ex (.int .u64 x)
set_option maxHeartbeats 2000000 in
theorem rWord_ok (n : Nat) (hn : n < 18446744073709551616) : Ok Tryz.prog 147 [wordC n] (natC n) := by
  refine Ok.enter Tryz.func147 J _ Tryz.ntmps147 J ?_
  intro S w; refine Qy (Qx fun K hK => ?_); refine Qj J J J (Qv (hK _ _ (Qz (Qy ?_)))); clear hK K; refine Qx (fun K hK => ?_); refine Qj J J J (Qv (hK _ _ (Qz (Qy (Q4 ?_))))); clear hK K
  refine Zx 3 0 3 1 J J J ?_
  skip
  refine Qn (α := Nat × List Int) (fun s => s.1 ≤ n ∧ limbs n = s.2 ++ limbs s.1)
    (fun s => [(0, .ct (wordC s.1)), (3, .own 0)]) (fun s => [(0, .row 3 1 (ints s.2))]) (fun s => s.1) (n, []) ⟨Nat.le_refl _, rfl⟩ (by exact QJ J ⟨rfl, rfl, trivial⟩) ?_
  rintro ⟨m, zs⟩ ⟨hm, hv⟩
  dsimp only at hm hv ⊢
  have hl : zs.length ≤ 64 := by
    have h1 := congrArg List.length hv; have h2 := Qf (n := n) (k := 3) (by omega); simp at h1; omega
  refine Qy (Qy (Qx fun K hK => ?_)); refine Qq J J J (Qk igtr J J J J (Qv (hK _ _ (Qz ?_)))); clear hK K; refine Q1 J (fun h => ?_) (fun h => ?_)
  · refine Q0 (Qz (Qy (Q4 (Qx fun K hK => ?_)))); refine Qq J J J (Qq J J J (Qk (urem (by omega) (by omega)) J J J J ?_))
    refine Zf J J uU64 uI64 (Ze (by omega) (by omega)) J ?_
    refine XZ J J sNat J J J (Qt zs.length (ints (zs ++ [(m : Int) % 1073741824])) J J J J sNat (by simp [ints]) J (by omega) (by omega) (by simp [ints]) J ?_); refine Qj J J J (Qv (hK _ _ (Qz ?_))); clear hK K; refine Qx (fun K hK => ?_); refine Qq J J J (Qk (uquo (by omega) (by omega) (by omega)) J J J J ?_); refine Qj J J J (Qv (hK _ _ (Q7 ?_))); clear hK K
    refine Qb (m / 1073741824, zs ++ [(m : Int) % 1073741824]) (by dsimp only; omega) ⟨by dsimp only; omega, ?_⟩ ?_
    all_goals dsimp only
    · rw [hv, limbs_pos (n := m) (by omega)]; simp
    · exact QJ J ⟨by rw [Int.natCast_ediv]; rfl, rfl, trivial⟩
  · have : m = 0 := by omega
    subst this; rw [limbs_zero, List.append_nil] at hv; subst hv; refine X6 0 _ J (X1 _ _) XV (Qm (Qz (Qy (Qx fun K hK => ?_)))); refine Qq J J J (Qj J J J (Qv (hK _ _ (Qz (QU ?_))))); clear hK K; refine QY [_] rfl (Qu J QQ) J J
theorem gorWord : InGo Tryz.prog 147 := InGo.of Tryz.func147 (by kernel_rfl) (by kernel_rfl)
theorem cmpI_le {a b : Int} : cmpI a b ≤ 0 ↔ a ≤ b := by unfold cmpI; split <;> (try split) <;> omega
theorem rTimes_one (b m : Nat) (h0 : 0 < m) (h1 : m < 1073741824) (hl : (limbs b).length ≤ 100000) : Ok Tryz.prog 94 [natC b, .fr (sliceT 1 [[intC m]])] (natC (b * m)) := by
  have h := rTimes_ok b m (by rw [Y7 h0 h1]; simp; omega)
  have e : natC m = .fr (sliceT 1 [[intC m]]) := by show intsC (limbs m) = _; rw [Y7 h0 h1]; rfl
  rw [← e]; exact h
theorem split_step {v b r R A p x P d : Int} (K : Int) (hR : R = r * K + x) (hv : v * b + r * (P * K) = A - (p + x * P)) : (v + d * P) * b + (R - b * d) * P = A - p := by
  subst hR; grind
theorem len_lt_mul {R b k : Nat} (h : (limbs b).length ≤ k) (hR : R < b * 1073741824) : (limbs R).length ≤ k + 1 := by
  refine Qf ?_
  rw [Nat.pow_succ]; exact Nat.lt_trans hR (Nat.mul_lt_mul_of_pos_right (XU h) (by decide))
set_option maxHeartbeats 4000000 in
theorem rSplit_ok (a b : Nat) (hb : 0 < b) (la : (limbs a).length ≤ 10000) (lb : (limbs b).length ≤ 10000) : Ok Tryz.prog 103 [natC a, natC b] (.fr (tupT [natC (a / b), natC (a % b)])) := by
  refine Ok.enter Tryz.func103 J _ Tryz.ntmps103 J ?_
  intro S w; refine Qy (Qx fun K hK => ?_); refine Qj J J J (Qj J J J (Qv (hK _ _ (Qz (Qy ?_))))); clear hK K; refine Qx (fun K hK => ?_); refine Qq J J J (Q3 J J sNat.und (List.length_map ..) J (Z5 0 (limbs a).length J J J J sNat (by omega) (by omega) J J J ?_)); rw [ints_made]; refine Qj J J J (Qv (hK _ _ (Qz (Qy ?_)))); clear hK K; refine Qx (fun K hK => ?_); refine Qj J J J (Qv (hK _ _ (Qz (Qy (Qy ?_))))); clear hK K; refine Qx (fun K hK => ?_); refine Qq J J J (Q3 J J sNat.und (List.length_map ..) J (Qk (isub (by omega) (by omega)) J J J J ?_)); refine Qj J J J (Qv (hK _ _ (Qz (Q4 ?_)))); clear hK K
  refine St.asNil 7 1 J ?_
  refine Qn (α := Nat × List Int × Nat) (fun s => s.1 ≤ (limbs a).length ∧ s.2.1.length = (limbs a).length ∧ OKL s.2.1 ∧ (∀ j, j < s.1 → s.2.1.getD j 0 = 0) ∧ s.2.2 < b ∧ val s.2.1 * b + s.2.2 * BB ^ s.1 = val (limbs a) - pre (limbs a) s.1)
    (fun s => [(0, .ct (natC a)), (1, .ct (natC b)), (6, .own 0), (7, .ct (natC s.2.2)), (8, .ct (intC ((s.1 : Int) - 1)))])
    (fun s => [(0, .row 3 1 (ints s.2.1))]) (fun s => s.1) ((limbs a).length, List.replicate (limbs a).length 0, 0) ⟨Nat.le_refl _, by simp, OKL.zeros _, ?_, hb, ?_⟩ (by exact QJ J ⟨rfl, rfl, rfl, by rw [natC_zero]; rfl, rfl, trivial⟩) ?_
  · intro j _; simp [List.getD_eq_getElem?_getD, List.getElem?_replicate]; split <;> rfl
  · dsimp only; rw [YZ, Zv (Nat.le_refl _)]; simp
  rintro ⟨q, zs, rr⟩ ⟨hq, hzl, hok, hz, hrb, hv⟩
  dsimp only at hq hzl hok hz hrb hv ⊢; refine Qy (Qy (Qx fun K hK => ?_)); refine Qq J J J (Qk igeq J J J J (Qv (hK _ _ (Qz ?_)))); clear hK K; refine Q1 J (fun h => ?_) (fun h => ?_)
  · obtain ⟨i, rfl⟩ : ∃ i, q = i + 1 := ⟨q - 1, by omega⟩
    have e1 : (((i + 1 : Nat) : Int) - 1) = (i : Int) := by omega
    have e2 : (i : Int).toNat = i := Int.toNat_natCast i
    have e3 : (i : Int).toNat * 1 = i := by omega
    have bx := (XQ a).get i; simp only [BB] at bx; obtain ⟨R, hR⟩ : ∃ R : Nat, (R : Int) = rr * 1073741824 + (limbs a).getD i 0 := ⟨((rr : Int) * 1073741824 + (limbs a).getD i 0).toNat, by omega⟩; have lrr : (limbs rr).length ≤ 10000 := Nat.le_trans (Xu (Nat.le_of_lt hrb)) lb
    have eT : trimL ((limbs a).getD i 0 :: limbs rr) = limbs R := by
      rw [Xt (OKL.cons (by simp only [BB]; omega) (XQ rr))]; simp only [val]; rw [X7]; congr 1; simp only [BB]; omega
    have hRb : R < b * 1073741824 := by
      have h1 : (rr + 1) * 1073741824 ≤ b * 1073741824 := Nat.mul_le_mul_right _ (by omega); omega
    have lR : (limbs R).length ≤ 10001 := len_lt_mul lb hRb; rw [XY, Int.pow_succ] at hv; rw [e1]; refine Q0 (Qz (Qy (Q4 (Qy (Qx fun K hK => ?_))))); refine Qq J J J (Qq J J J (Qc J J J sNat (by omega) (Xw (by omega) (by omega)) J ?_))
    refine Ql J J J lInt J ?_
    rw [e2]; refine Ops.lit1E 1 J J sNat J J J J J (Qq J J J (Ops.append 1 (ints ((limbs a).getD i 0 :: limbs rr)) J J J J sNat J ?_ (by simp; omega) (by simp; omega) ?_ J ?_))
    · rw [flat_one]; exact ints_ones _
    · rw [flat_one]; rfl
    refine Zb 1 _ J (X1 _ _) XV (QX gorTrim (rTrim_ok _ (by simp; omega)) J J J J ?_); rw [eT]; refine Qj J J J (Qv (hK _ _ (Qz (Qy (Qy ?_))))); clear hK K; refine Qx (fun K hK => ?_); refine Qq J J J (Qq J J J (QX gorCompare (rCompare_ok R b (by omega) (by omega)) J J J J ?_)); refine Qk ilss J J J J (Qv (hK _ _ (Qz ?_))); clear hK K; refine Q1 J (fun h2 => ?_) (fun h2 => ?_)
    · rw [Yf] at h2; refine Qm (Qz (Qx fun K hK => ?_)); refine Qq J J J (Qk (isub (by omega) (by omega)) J J J J ?_); refine Qj J J J (Qv (hK _ _ (Q7 ?_))); clear hK K; refine Qb (i, zs, R) (by dsimp only; omega) ⟨by dsimp only; omega, hzl, hok, fun j hj => hz j (by dsimp only at hj; omega), by dsimp only; omega, ?_⟩ (by exact QJ J ⟨rfl, rfl, rfl, rfl, rfl, trivial⟩); dsimp only; have := split_step (d := 0) BB hR hv
      simpa using this
    · rw [Yf] at h2; refine Q0 (Qz (Qy (Qx fun K hK => ?_))); refine Qj J J J (Qj J J J (Qv (hK _ _ (Qz (Qy (Q4 ?_)))))); clear hK K
      refine Qn (α := Nat × Nat) (fun s => 1 ≤ s.1 ∧ s.1 ≤ s.2 ∧ s.2 ≤ 1073741823 ∧ b * s.1 ≤ R ∧ R < b * (s.2 + 1))
        (fun s => [(0, .ct (natC a)), (1, .ct (natC b)), (6, .own 0), (7, .ct (natC R)), (8, .ct (intC i)), (9, .ct (intC s.1)), (10, .ct (intC s.2))])
        (fun _ => [(0, .row 3 1 (ints zs))]) (fun s => s.2 - s.1) (1, 1073741823) ⟨Nat.le_refl _, by decide, Nat.le_refl _, by omega, hRb⟩ (by exact QJ J ⟨rfl, rfl, rfl, rfl, rfl, rfl, rfl, trivial⟩) ?_
      rintro ⟨lo, hi⟩ ⟨k1, k2, k3, k4, k5⟩
      dsimp only at k1 k2 k3 k4 k5 ⊢; refine Qy (Qy (Qx fun K hK => ?_)); refine Qq J J J (Qq J J J (Qk ilss J J J J (Qv (hK _ _ (Qz ?_))))); clear hK K; refine Q1 J (fun h3 => ?_) (fun h3 => ?_)
      · obtain ⟨m, hm⟩ : ∃ m : Nat, m = (lo + hi + 1) / 2 := ⟨_, rfl⟩
        have em : ((lo : Int) + hi + 1) / 2 = (m : Int) := by omega
        have lbm : (limbs (b * m)).length ≤ 10001 := Nat.le_trans X2 (by
          have := Qf (n := m) (k := 1) (by omega)
          omega)
        refine Q0 (Qz (Q4 (Qy (Qx fun K hK => ?_)))); refine Qq J J J (Qq J J J (Qk (iadd (by omega) (by omega)) J J J J ?_))
        refine Qk (iadd (by omega) (by omega)) J J J J ?_
        refine Qk (iquo (by omega) (by omega) (by omega)) J J J J ?_
        refine Qj J J J (Qv (hK _ _ (Qz (Qy ?_)))); clear hK K; refine Qx (fun K hK => ?_); refine Qq J J J (Qq J J J ?_); rw [em]; skip; refine XZ J J sNat J J J (QX gorTimes (rTimes_one b m (by omega) (by omega) (by omega)) J J J J ?_); refine Qq J J J (QX gorCompare (rCompare_ok (b * m) R (by omega) (by omega)) J J J J ?_); refine Qk ileq J J J J (Qv (hK _ _ (Qz ?_))); clear hK K; refine Q1 J (fun h4 => ?_) (fun h4 => ?_)
        · rw [cmpI_le] at h4; refine Qx (fun K hK => ?_); refine Qq J J J (Qj J J J (Qv (hK _ _ (XJ (Q7 ?_))))); clear hK K; refine Qb (m, hi) (by dsimp only; omega) ⟨by dsimp only; omega, by dsimp only; omega, k3, by dsimp only; omega, k5⟩ (by exact QJ J ⟨rfl, rfl, rfl, rfl, rfl, rfl, rfl, trivial⟩)
        · rw [cmpI_le] at h4; refine Qx (fun K hK => ?_); refine Qq J J J (Qk (isub (by omega) (by omega)) J J J J ?_); refine Qj J J J (Qv (hK _ _ (XJ (Q7 ?_)))); clear hK K; refine Qb (lo, m - 1) (by dsimp only; omega) ⟨k1, by dsimp only; omega, by dsimp only; omega, k4, ?_⟩ (by exact QJ J ⟨rfl, rfl, rfl, rfl, rfl, rfl, by rw [show ((m - 1 : Nat) : Int) = (m : Int) - 1 by omega]; rfl, trivial⟩); dsimp only; rw [show m - 1 + 1 = m by omega]; omega
      · have h6 : lo = hi := by omega
        subst h6
        have lbm : (limbs (b * lo)).length ≤ 10001 := Nat.le_trans X2 (by
          have := Qf (n := lo) (k := 1) (by omega)
          omega)
        refine Qm (Qz (Qy (Qx fun K hK => ?_))); refine Qq J J J (Qq J J J (Qq J J J (XX (limbs a).length J J J (by simp [ints]; omega) J sNat (by omega) (by omega) J ?_))); rw [e3]
        refine Xv J J J J J zInt (by simp [Ent.cs, ints]; omega) ?_
        simp only [Ent.setc, ZV]; refine Qv (hK _ _ (Qz ?_)); clear hK K; refine Qx (fun K hK => ?_); refine Qq J J J (Qq J J J (Qq J J J (XZ J J sNat J J J (QX gorTimes (rTimes_one b lo (by omega) (by omega) (by omega)) J J J J ?_))))
        refine QX gorLess (rLess_ok R (b * lo) k4 (by omega)) J J J J ?_
        refine Qj J J J (Qv (hK _ _ (Qz ?_))); clear hK K; refine Qx (fun K hK => ?_); refine Qq J J J (Qk (isub (by omega) (by omega)) J J J J ?_); refine Qj J J J (Qv (hK _ _ (Q7 ?_))); clear hK K; refine Qb (i, zs.set i (lo : Int), R - b * lo) (by dsimp only; omega) ⟨by dsimp only; omega, by simp [hzl], ?_, ?_, ?_, ?_⟩ (by exact QJ J ⟨rfl, rfl, rfl, rfl, rfl, trivial⟩)
        all_goals dsimp only
        · exact hok.set _ (by simp only [BB]; omega)
        · intro j hj; rw [getD_set (by omega), if_neg (by omega)]; exact hz j (by omega)
        · rw [Nat.mul_add] at k5; omega
        · rw [Ys (by omega), hz i (by omega), Int.sub_zero, show ((R - b * lo : Nat) : Int) = (R : Int) - b * lo by rw [Int.natCast_sub k4, Int.natCast_mul]]; exact split_step BB hR hv
  · have hq0 : q = 0 := by omega
    subst hq0
    have e4 : val zs * b + rr = a := by rw [Xr, X7] at hv; simpa using hv
    have hvz := Yk hok; obtain ⟨Q, hQ⟩ : ∃ Q : Nat, val zs = Q := ⟨(val zs).toNat, by omega⟩; rw [hQ] at e4
    have e4' : a = rr + Q * b := by
      have : ((Q * b + rr : Nat) : Int) = a := by rw [Int.natCast_add, Int.natCast_mul]; exact e4
      omega
    have e5 : a / b = Q ∧ a % b = rr := by
      rw [e4']; constructor
      · rw [Nat.add_mul_div_right _ _ hb, Nat.div_eq_of_lt hrb]; omega
      · rw [Nat.add_mul_mod_self_right, Nat.mod_eq_of_lt hrb]
    refine X6 0 _ J (X1 _ _) XV (Qm (Qz (Qy (Qx fun K hK => ?_)))); refine Qq J J J (QX gorTrim (rTrim_ok zs (by omega)) J J J J ?_); rw [Xt hok, hQ, Int.toNat_natCast]; refine Qq J J J (Qj J J J (Qj J J J (Qv (hK _ _ (Qz (QU ?_)))))); clear hK K; refine QY [_, _] rfl (Qu J (Qu J QQ)) (by rw [e5.1, e5.2]; rfl) J
theorem gorSplit : InGo Tryz.prog 103 := InGo.of Tryz.func103 (by kernel_rfl) (by kernel_rfl)
theorem limbs_get0 {x : Nat} (h : x ≠ 0) : (limbs x).getD 0 0 = ((x % 1073741824 : Nat) : Int) := by rw [limbs_pos h]; rfl
theorem gcd_half {x y : Nat} (hx : x % 2 = 0) (hy : y % 2 = 1) : Nat.gcd (x / 2) y = Nat.gcd x y := by
  have e : x = 2 * (x / 2) := by omega
  have hc : Nat.Coprime 2 y := by
    unfold Nat.Coprime; rw [Nat.gcd_rec, hy]; rfl
  conv => rhs; rw [e]
  exact (hc.gcd_mul_left_cancel _).symm
theorem gcd_two {x y : Nat} (hx : x % 2 = 0) (hy : y % 2 = 0) : 2 * Nat.gcd (x / 2) (y / 2) = Nat.gcd x y := by
  rw [← Nat.gcd_mul_left, show 2 * (x / 2) = x by omega, show 2 * (y / 2) = y by omega]
theorem gcd_less {x y : Nat} (h : y ≤ x) : Nat.gcd (x - y) y = Nat.gcd x y := by
  conv => rhs; rw [show x = (x - y) + y by omega]
  rw [Nat.gcd_add_self_left]
theorem len_add {x y k : Nat} (h1 : x < 1073741824 ^ k) (h2 : y < 1073741824 ^ k) : (limbs (x + y)).length ≤ k + 1 := by
  refine Qf ?_
  rw [Nat.pow_succ]; omega
set_option maxHeartbeats 8000000 in
theorem rGcd_ok (a b : Nat) (la : (limbs a).length ≤ 10000) (lb : (limbs b).length ≤ 10000) : Ok Tryz.prog 140 [natC a, natC b] (natC (Nat.gcd a b)) := by
  refine Ok.enter Tryz.func140 J _ Tryz.ntmps140 J ?_
  intro S w; refine Qy (Qx fun K hK => ?_); refine Qj J J J (Qv (hK _ _ (Qz (Qy (Qy ?_))))); clear hK K; refine Qx (fun K hK => ?_); refine Qq J J J (Q3 J J sNat.und (List.length_map ..) J (Qk ieql J J J J (Qq J J J ?_)))
  have early : (limbs a).length = 0 ∨ (limbs b).length = 0 → natC (Nat.gcd a b) = natC (a + b) := by
    rintro (h | h)
    · have : a = 0 := limbs_nil (List.eq_nil_of_length_eq_zero h); subst this; simp
    · have : b = 0 := limbs_nil (List.eq_nil_of_length_eq_zero h); subst this; simp
  refine Qi 9 J (fun g1 => ?_) (fun g1 => ?_)
  · have ee := early (.inl (by omega)); refine Qw J J J (Qw J J J (Qw J J J (Q6 J J J J (Qv (hK _ _ (Qz (Xq J (Qy ?_)))))))); clear hK K; refine Qx (fun K hK => ?_); refine Qq J J J (Qq J J J (QX gorPlus (Yi a b (by omega) (by omega)) J J J J ?_)); refine Qj J J J (Qv (hK _ _ (Qz (QU (QV ?_))))); clear hK K; refine QY [_] rfl (Qu J QQ) (by rw [ee]; rfl) J
  · refine Qq J J J (Q3 J J sNat.und (List.length_map ..) J (Qk ieql J J J J (Q2 J J J J (Qv (hK _ _ (Qz ?_)))))); clear hK K; refine Q1 J (fun g2 => ?_) (fun g2 => ?_)
    · have ee := early (.inr (by omega)); refine Qy (Qx fun K hK => ?_); refine Qq J J J (Qq J J J (QX gorPlus (Yi a b (by omega) (by omega)) J J J J ?_)); refine Qj J J J (Qv (hK _ _ (Qz (QU (QV ?_))))); clear hK K; refine QY [_] rfl (Qu J QQ) (by rw [ee]; rfl) J
    · have ha0 : a ≠ 0 := limbs_len_pos.mp (by omega); have hb0 : b ≠ 0 := limbs_len_pos.mp (by omega); clear early
      have e11 : natC 1 = .fr (sliceT 1 [[intC 1]]) := by show intsC (limbs 1) = _; rw [Y7 (by decide) (by decide)]; rfl
      have h00 : (0 : Int).toNat = 0 := rfl; refine Q0 (Qz (Qy (Qx fun K hK => ?_)))
      refine XZ J J sNat J J J ?_
      rw [← e11]; refine Qj J J J (Qv (hK _ _ (Qz (Qy (Q4 ?_))))); clear hK K
      refine Qn (α := Nat × Nat × Nat) (fun s => 0 < s.1 ∧ 0 < s.2.1 ∧ 0 < s.2.2 ∧ s.1 ≤ a ∧ s.2.1 ≤ b ∧ s.2.2 * s.1 ≤ a ∧ s.2.2 * Nat.gcd s.1 s.2.1 = Nat.gcd a b)
        (fun s => [(0, .ct (natC s.1)), (1, .ct (natC s.2.1)), (5, .ct (natC s.2.2))]) (fun _ => []) (fun s => s.1) (a, b, 1) ⟨by dsimp only; omega, by dsimp only; omega, Nat.one_pos, Nat.le_refl _, Nat.le_refl _, by dsimp only; omega, by dsimp only; omega⟩ (by exact QJ J ⟨rfl, rfl, rfl, trivial⟩) ?_
      rintro ⟨x, y, u⟩ ⟨hx, hy, hu, hxa, hyb, hua, hg⟩
      dsimp only at hx hy hu hxa hyb hua hg ⊢; have lx : (limbs x).length ≤ 10000 := Nat.le_trans (Xu hxa) la; have ly : (limbs y).length ≤ 10000 := Nat.le_trans (Xu hyb) lb; have lu : (limbs u).length ≤ 10000 := Nat.le_trans (Xu (Nat.le_trans (Nat.le_mul_of_pos_right u hx) hua)) la; have px := limbs_len_pos.mpr (show x ≠ 0 by omega); have py := limbs_len_pos.mpr (show y ≠ 0 by omega); have gx := limbs_get0 (show x ≠ 0 by omega); have gy := limbs_get0 (show y ≠ 0 by omega); refine Qy (Qy (Qx fun K hK => ?_)); refine Qq J J J (Qc J J J sNat (by omega) (Xw (by omega) (by omega)) J ?_)
      refine Ql J J J lInt J ?_
      rw [h00, gx]
      refine Qk (irem (by omega) (by omega)) J J J J ?_
      refine Qk ieql J J J J (Qq J J J (Qi 23 J (fun g3 => ?_) (fun g3 => ?_)))
      · refine Qq J J J (Qc J J J sNat (by omega) (Xw (by omega) (by omega)) J ?_)
        refine Ql J J J lInt J ?_
        rw [h00, gy]
        refine Qk (irem (by omega) (by omega)) J J J J ?_
        refine Qk ieql J J J J (Q6 J J J J (Qv (hK _ _ (Qz ?_)))); clear hK K; refine Q1 J (fun g4 => ?_) (fun g4 => ?_)
        · refine Q0 (Qz (Q4 (Qx fun K hK => ?_))); refine Qq J J J (QX gorhalf (rhalf_ok x (by omega)) J J J J ?_); refine Qq J J J (QX gorhalf (rhalf_ok y (by omega)) J J J J ?_); refine Qq J J J (Qq J J J (QX gorPlus (Yi u u (by omega) (by omega)) J J J J ?_)); refine Qj J J J (Qj J J J (Qj J J J (Qv (hK _ _ (XJ (Q7 ?_)))))); clear hK K; have q1 := gcd_two (x := x) (y := y) (by omega) (by omega); refine Qb (x / 2, y / 2, u + u) (by dsimp only; omega) ⟨by dsimp only; omega, by dsimp only; omega, by dsimp only; omega, by dsimp only; omega, by dsimp only; omega, ?_, ?_⟩ (by exact QJ J ⟨rfl, rfl, rfl, trivial⟩)
          · dsimp only; rw [← Nat.two_mul, Nat.mul_comm 2 u, Nat.mul_assoc, show 2 * (x / 2) = x by omega]; exact hua
          · dsimp only; rw [← Nat.two_mul, Nat.mul_comm 2 u, Nat.mul_assoc, q1]; exact hg
        · have hodd : x % 2 = 1 ∨ y % 2 = 1 := by omega
          clear g3 g4 gx gy; refine Qm (Qz (Qy (Q4 ?_)))
          refine Qn (α := Nat × Nat) (fun s => s.1 ≤ a ∧ s.2 ≤ b ∧ (s.1 % 2 = 1 ∨ s.2 % 2 = 1) ∧ u * Nat.gcd s.1 s.2 = Nat.gcd a b)
            (fun s => [(0, .ct (natC s.1)), (1, .ct (natC s.2)), (5, .ct (natC u))]) (fun _ => []) (fun s => s.1 + s.2) (x, y) ⟨hxa, hyb, hodd, hg⟩ (by exact QJ J ⟨rfl, rfl, rfl, trivial⟩) ?_
          clear hodd hg hxa hyb hua px py lx ly hx hy
          rintro ⟨p, q⟩ ⟨hpa, hqb, hodd, hg⟩
          dsimp only at hpa hqb hodd hg ⊢; have lp : (limbs p).length ≤ 10000 := Nat.le_trans (Xu hpa) la; have lq : (limbs q).length ≤ 10000 := Nat.le_trans (Xu hqb) lb
          have done : p = 0 ∨ q = 0 → natC (Nat.gcd a b) = natC (u * (p + q)) := by
            rintro (h | h)
            · subst h; rw [← hg]; simp
            · subst h; rw [← hg]; simp
          have lpq : (limbs (p + q)).length ≤ 10001 := by
            have h1 := XU lp; have h2 := XU lq; exact len_add h1 h2
          refine Qy (Qy (Qx fun K hK => ?_)); refine Qq J J J (Q3 J J sNat.und (List.length_map ..) J (Qk igtr J J J J (Qq J J J (Qi 40 J (fun g5 => ?_) (fun g5 => ?_)))))
          · refine Qq J J J (Q3 J J sNat.und (List.length_map ..) J (Qk igtr J J J J (Q6 J J J J (Qv (hK _ _ (Qz ?_)))))); clear hK K; refine Q1 J (fun g6 => ?_) (fun g6 => ?_)
            · have hp0 : p ≠ 0 := limbs_len_pos.mp (by omega); have hq0 : q ≠ 0 := limbs_len_pos.mp (by omega); have gp := limbs_get0 hp0; have gq := limbs_get0 hq0; clear done; refine Q0 (Qz (Q4 (Q4 (Qy (Qx fun K hK => ?_))))); refine Qq J J J (Qc J J J sNat (by omega) (Xw (by omega) (by omega)) J ?_)
              refine Ql J J J lInt J ?_
              rw [h00, gp]
              refine Qk (irem (by omega) (by omega)) J J J J ?_
              refine Qk ieql J J J J (Qj J J J (Qv (hK _ _ (Qz ?_)))); clear hK K; refine Q1 J (fun g7 => ?_) (fun g7 => ?_)
              · have q1 := gcd_half (x := p) (y := q) (by omega) (by omega); refine Qx (fun K hK => ?_); refine Qq J J J (QX gorhalf (rhalf_ok p (by omega)) J J J J ?_); refine Qj J J J (Qv (hK _ _ (XJ (XJ (Q7 ?_))))); clear hK K; refine Qb (p / 2, q) (by dsimp only; omega) ⟨by dsimp only; omega, hqb, by dsimp only; omega, by dsimp only; rw [q1]; exact hg⟩ (by exact QJ J ⟨rfl, rfl, rfl, trivial⟩)
              · refine Qy (Qx fun K hK => ?_); refine Qq J J J (Qc J J J sNat (by omega) (Xw (by omega) (by omega)) J ?_)
                refine Ql J J J lInt J ?_
                rw [h00, gq]
                refine Qk (irem (by omega) (by omega)) J J J J ?_
                refine Qk ieql J J J J (Qj J J J (Qv (hK _ _ (Qz ?_)))); clear hK K; refine Q1 J (fun g8 => ?_) (fun g8 => ?_)
                · have q1 := gcd_half (x := q) (y := p) (by omega) (by omega); refine Qx (fun K hK => ?_); refine Qq J J J (QX gorhalf (rhalf_ok q (by omega)) J J J J ?_); refine Qj J J J (Qv (hK _ _ (XJ (XJ (Q7 ?_))))); clear hK K; refine Qb (p, q / 2) (by dsimp only; omega) ⟨hpa, by dsimp only; omega, by dsimp only; omega, by dsimp only; rw [Nat.gcd_comm, q1, Nat.gcd_comm]; exact hg⟩ (by exact QJ J ⟨rfl, rfl, rfl, trivial⟩)
                · refine Qy (Qx fun K hK => ?_); refine Qq J J J (Qq J J J (QX gorCompare (rCompare_ok p q (by omega) (by omega)) J J J J ?_)); refine Qk igeq J J J J (Qj J J J (Qv (hK _ _ (Qz ?_)))); clear hK K; refine Q1 J (fun g9 => ?_) (fun g9 => ?_)
                  · have hle : q ≤ p := by have := Yf (a := p) (b := q); omega
                    have q1 := gcd_less hle; refine Qx (fun K hK => ?_); refine Qq J J J (Qq J J J (QX gorLess (rLess_ok p q hle (by omega)) J J J J ?_)); refine Qj J J J (Qv (hK _ _ (XJ (XJ (Q7 ?_))))); clear hK K; refine Qb (p - q, q) (by dsimp only; omega) ⟨by dsimp only; omega, hqb, by dsimp only; omega, by dsimp only; rw [q1]; exact hg⟩ (by exact QJ J ⟨rfl, rfl, rfl, trivial⟩)
                  · have hle : p ≤ q := by have := Yf (a := p) (b := q); omega
                    have q1 := gcd_less hle; refine Qx (fun K hK => ?_); refine Qq J J J (Qq J J J (QX gorLess (rLess_ok q p hle (by omega)) J J J J ?_)); refine Qj J J J (Qv (hK _ _ (XJ (XJ (Q7 ?_))))); clear hK K; refine Qb (p, q - p) (by dsimp only; omega) ⟨hpa, by dsimp only; omega, by dsimp only; omega, by dsimp only; rw [Nat.gcd_comm, q1, Nat.gcd_comm]; exact hg⟩ (by exact QJ J ⟨rfl, rfl, rfl, trivial⟩)
            · have hd := done (.inr (limbs_nil (List.eq_nil_of_length_eq_zero (by omega)))); refine Qm (Qz (Qy (Qx fun K hK => ?_))); refine Qq J J J (Qq J J J (Qq J J J (QX gorPlus (Yi p q (by omega) (by omega)) J J J J ?_)))
              refine QX gorTimes (rTimes_ok u (p + q) (by omega)) J J J J ?_
              refine Qj J J J (Qv (hK _ _ (Qz (QU ?_)))); clear hK K; refine QY [_] rfl (Qu J QQ) (by rw [hd]; rfl) J
          · have hd := done (.inl (limbs_nil (List.eq_nil_of_length_eq_zero (by omega)))); refine Qw J J J (Qw J J J (Qw J J J (Q2 J J J J (Qv (hK _ _ (Qz (Qr J (Qm (Qz (Qy ?_)))))))))); clear hK K; refine Qx (fun K hK => ?_); refine Qq J J J (Qq J J J (Qq J J J (QX gorPlus (Yi p q (by omega) (by omega)) J J J J ?_)))
            refine QX gorTimes (rTimes_ok u (p + q) (by omega)) J J J J ?_
            refine Qj J J J (Qv (hK _ _ (Qz (QU ?_)))); clear hK K; refine QY [_] rfl (Qu J QQ) (by rw [hd]; rfl) J
      · have hodd : x % 2 = 1 ∨ y % 2 = 1 := by omega
        clear g3 gx gy; refine Qw J J J (Qw J J J (Qw J J J (Qw J J J (Qw J J J (Q2 J J J J (Qv (hK _ _ (Qz (Qr J (Qm (Qz (Qy (Q4 ?_))))))))))))); clear hK K
        refine Qn (α := Nat × Nat) (fun s => s.1 ≤ a ∧ s.2 ≤ b ∧ (s.1 % 2 = 1 ∨ s.2 % 2 = 1) ∧ u * Nat.gcd s.1 s.2 = Nat.gcd a b)
          (fun s => [(0, .ct (natC s.1)), (1, .ct (natC s.2)), (5, .ct (natC u))]) (fun _ => []) (fun s => s.1 + s.2) (x, y) ⟨hxa, hyb, hodd, hg⟩ (by exact QJ J ⟨rfl, rfl, rfl, trivial⟩) ?_
        clear hodd hg hxa hyb hua px py lx ly hx hy
        rintro ⟨p, q⟩ ⟨hpa, hqb, hodd, hg⟩
        dsimp only at hpa hqb hodd hg ⊢; have lp : (limbs p).length ≤ 10000 := Nat.le_trans (Xu hpa) la; have lq : (limbs q).length ≤ 10000 := Nat.le_trans (Xu hqb) lb
        have done : p = 0 ∨ q = 0 → natC (Nat.gcd a b) = natC (u * (p + q)) := by
          rintro (h | h)
          · subst h; rw [← hg]; simp
          · subst h; rw [← hg]; simp
        have lpq : (limbs (p + q)).length ≤ 10001 := by
          have h1 := XU lp; have h2 := XU lq; exact len_add h1 h2
        refine Qy (Qy (Qx fun K hK => ?_)); refine Qq J J J (Q3 J J sNat.und (List.length_map ..) J (Qk igtr J J J J (Qq J J J (Qi 40 J (fun g5 => ?_) (fun g5 => ?_)))))
        · refine Qq J J J (Q3 J J sNat.und (List.length_map ..) J (Qk igtr J J J J (Q6 J J J J (Qv (hK _ _ (Qz ?_)))))); clear hK K; refine Q1 J (fun g6 => ?_) (fun g6 => ?_)
          · have hp0 : p ≠ 0 := limbs_len_pos.mp (by omega); have hq0 : q ≠ 0 := limbs_len_pos.mp (by omega); have gp := limbs_get0 hp0; have gq := limbs_get0 hq0; clear done; refine Q0 (Qz (Q4 (Q4 (Qy (Qx fun K hK => ?_))))); refine Qq J J J (Qc J J J sNat (by omega) (Xw (by omega) (by omega)) J ?_)
            refine Ql J J J lInt J ?_
            rw [h00, gp]
            refine Qk (irem (by omega) (by omega)) J J J J ?_
            refine Qk ieql J J J J (Qj J J J (Qv (hK _ _ (Qz ?_)))); clear hK K; refine Q1 J (fun g7 => ?_) (fun g7 => ?_)
            · have q1 := gcd_half (x := p) (y := q) (by omega) (by omega); refine Qx (fun K hK => ?_); refine Qq J J J (QX gorhalf (rhalf_ok p (by omega)) J J J J ?_); refine Qj J J J (Qv (hK _ _ (XJ (XJ (Q7 ?_))))); clear hK K; refine Qb (p / 2, q) (by dsimp only; omega) ⟨by dsimp only; omega, hqb, by dsimp only; omega, by dsimp only; rw [q1]; exact hg⟩ (by exact QJ J ⟨rfl, rfl, rfl, trivial⟩)
            · refine Qy (Qx fun K hK => ?_); refine Qq J J J (Qc J J J sNat (by omega) (Xw (by omega) (by omega)) J ?_)
              refine Ql J J J lInt J ?_
              rw [h00, gq]
              refine Qk (irem (by omega) (by omega)) J J J J ?_
              refine Qk ieql J J J J (Qj J J J (Qv (hK _ _ (Qz ?_)))); clear hK K; refine Q1 J (fun g8 => ?_) (fun g8 => ?_)
              · have q1 := gcd_half (x := q) (y := p) (by omega) (by omega); refine Qx (fun K hK => ?_); refine Qq J J J (QX gorhalf (rhalf_ok q (by omega)) J J J J ?_); refine Qj J J J (Qv (hK _ _ (XJ (XJ (Q7 ?_))))); clear hK K; refine Qb (p, q / 2) (by dsimp only; omega) ⟨hpa, by dsimp only; omega, by dsimp only; omega, by dsimp only; rw [Nat.gcd_comm, q1, Nat.gcd_comm]; exact hg⟩ (by exact QJ J ⟨rfl, rfl, rfl, trivial⟩)
              · refine Qy (Qx fun K hK => ?_); refine Qq J J J (Qq J J J (QX gorCompare (rCompare_ok p q (by omega) (by omega)) J J J J ?_)); refine Qk igeq J J J J (Qj J J J (Qv (hK _ _ (Qz ?_)))); clear hK K; refine Q1 J (fun g9 => ?_) (fun g9 => ?_)
                · have hle : q ≤ p := by have := Yf (a := p) (b := q); omega
                  have q1 := gcd_less hle; refine Qx (fun K hK => ?_); refine Qq J J J (Qq J J J (QX gorLess (rLess_ok p q hle (by omega)) J J J J ?_)); refine Qj J J J (Qv (hK _ _ (XJ (XJ (Q7 ?_))))); clear hK K; refine Qb (p - q, q) (by dsimp only; omega) ⟨by dsimp only; omega, hqb, by dsimp only; omega, by dsimp only; rw [q1]; exact hg⟩ (by exact QJ J ⟨rfl, rfl, rfl, trivial⟩)
                · have hle : p ≤ q := by have := Yf (a := p) (b := q); omega
                  have q1 := gcd_less hle; refine Qx (fun K hK => ?_); refine Qq J J J (Qq J J J (QX gorLess (rLess_ok q p hle (by omega)) J J J J ?_)); refine Qj J J J (Qv (hK _ _ (XJ (XJ (Q7 ?_))))); clear hK K; refine Qb (p, q - p) (by dsimp only; omega) ⟨hpa, by dsimp only; omega, by dsimp only; omega, by dsimp only; rw [Nat.gcd_comm, q1, Nat.gcd_comm]; exact hg⟩ (by exact QJ J ⟨rfl, rfl, rfl, trivial⟩)
          · have hd := done (.inr (limbs_nil (List.eq_nil_of_length_eq_zero (by omega)))); refine Qm (Qz (Qy (Qx fun K hK => ?_))); refine Qq J J J (Qq J J J (Qq J J J (QX gorPlus (Yi p q (by omega) (by omega)) J J J J ?_)))
            refine QX gorTimes (rTimes_ok u (p + q) (by omega)) J J J J ?_
            refine Qj J J J (Qv (hK _ _ (Qz (QU ?_)))); clear hK K; refine QY [_] rfl (Qu J QQ) (by rw [hd]; rfl) J
        · have hd := done (.inl (limbs_nil (List.eq_nil_of_length_eq_zero (by omega)))); refine Qw J J J (Qw J J J (Qw J J J (Q2 J J J J (Qv (hK _ _ (Qz (Qr J (Qm (Qz (Qy ?_)))))))))); clear hK K; refine Qx (fun K hK => ?_); refine Qq J J J (Qq J J J (Qq J J J (QX gorPlus (Yi p q (by omega) (by omega)) J J J J ?_)))
          refine QX gorTimes (rTimes_ok u (p + q) (by omega)) J J J J ?_
          refine Qj J J J (Qv (hK _ _ (Qz (QU ?_)))); clear hK K; refine QY [_] rfl (Qu J QQ) (by rw [hd]; rfl) J
theorem gorGcd : InGo Tryz.prog 140 := InGo.of Tryz.func140 (by kernel_rfl) (by kernel_rfl)
set_option maxHeartbeats 2000000 in
theorem rInt_ok (n : Nat) (hn : n ≤ 4611686018427387904) : Ok Tryz.prog 105 [natC n] (.fr (tupT [intC n, intC 0])) := by
  have hl : (limbs n).length ≤ 3 := Qf (k := 3) (by omega); obtain ⟨M, hM⟩ : ∃ M : Nat, M = 4611686018427387904 := ⟨_, rfl⟩; have h62 : (limbs M).length ≤ 3 := Qf (k := 3) (by omega)
  have hW : Ok Tryz.prog 147 [wordC 4611686018427387904] (natC M) := by
    have := rWord_ok M (by omega); rw [show ((M : Nat) : Int) = 4611686018427387904 by omega] at this; exact this
  refine Ok.enter Tryz.func105 J _ Tryz.ntmps105 J ?_
  intro S w; refine Qy (Qx fun K hK => ?_); refine Qj J J J (Qj J J J (Qv (hK _ _ (Qz (Qy (Qy ?_)))))); clear hK K; refine Qx (fun K hK => ?_); refine Qq J J J (QX gorWord hW J J J J (QX gorCompare (rCompare_ok n M (by omega) (by omega)) J J J J ?_)); refine Qk igtr J J J J (Qv (hK _ _ (Qz ?_))); clear hK K; refine Q1 J (fun h => ?_) (fun h => ?_)
  · rw [cmpI_pos] at h; omega
  clear h; refine Q0 (Qz (Qy (Qx fun K hK => ?_))); refine Qj J J J (Qv (hK _ _ (Qz (Qy (Qy ?_))))); clear hK K; refine Qx (fun K hK => ?_); refine Qq J J J (Q3 J J sNat.und (List.length_map ..) J (Qk (isub (by omega) (by omega)) J J J J ?_)); refine Qj J J J (Qv (hK _ _ (Qz (Q4 ?_)))); clear hK K
  refine Qn (α := Nat × Int) (fun s => s.1 ≤ (limbs n).length ∧ 0 ≤ s.2 ∧ s.2 * BB ^ s.1 + pre (limbs n) s.1 = n)
    (fun s => [(0, .ct (natC n)), (4, .ct (intC s.2)), (5, .ct (intC ((s.1 : Int) - 1)))]) (fun _ => []) (fun s => s.1) ((limbs n).length, 0) ⟨Nat.le_refl _, Int.le_refl _, by dsimp only; rw [Zp]; simp⟩ (by exact QJ J ⟨rfl, rfl, rfl, trivial⟩) ?_
  rintro ⟨q, v⟩ ⟨hq, hv, hvq⟩
  dsimp only at hq hv hvq ⊢; refine Qy (Qy (Qx fun K hK => ?_)); refine Qq J J J (Qk igeq J J J J (Qv (hK _ _ (Qz ?_)))); clear hK K; refine Q1 J (fun h => ?_) (fun h => ?_)
  · obtain ⟨i, rfl⟩ : ∃ i, q = i + 1 := ⟨q - 1, by omega⟩
    have e1 : (((i + 1 : Nat) : Int) - 1) = (i : Int) := by omega
    have e2 : (i : Int).toNat = i := Int.toNat_natCast i; have bx := (XQ n).get i; simp only [BB] at bx; rw [XY, Int.pow_succ] at hvq; have hp := (Zn (XQ n) i).1; have hpw : (1 : Int) ≤ BB ^ i := Int.pow_pos (by decide)
    have key : v * 1073741824 + (limbs n).getD i 0 ≤ 4611686018427387904 := by
      have e : (v * 1073741824 + (limbs n).getD i 0) * BB ^ i + pre (limbs n) i = n := by
        rw [← hvq]; simp only [BB]; grind
      have : (v * 1073741824 + (limbs n).getD i 0) * 1 ≤ (v * 1073741824 + (limbs n).getD i 0) * BB ^ i := Int.mul_le_mul_of_nonneg_left hpw (by omega); omega
    rw [e1]; refine Q0 (Qz (Qy (Q4 (Qx fun K hK => ?_)))); refine Qq J J J (Qk (imul (by omega) (by omega)) J J J J ?_); refine Qq J J J (Qq J J J (Qc J J J sNat (by omega) (Xw (by omega) (by omega)) J ?_))
    refine Ql J J J lInt J ?_
    rw [e2]
    refine Qk (iadd (by omega) (by omega)) J J J J ?_
    refine Qj J J J (Qv (hK _ _ (Qz ?_))); clear hK K; refine Qx (fun K hK => ?_); refine Qq J J J (Qk (isub (by omega) (by omega)) J J J J ?_); refine Qj J J J (Qv (hK _ _ (Q7 ?_))); clear hK K; refine Qb (i, v * 1073741824 + (limbs n).getD i 0) (by dsimp only; omega) ⟨by dsimp only; omega, by dsimp only; omega, ?_⟩ (by exact QJ J ⟨rfl, rfl, rfl, trivial⟩); dsimp only; rw [← hvq]; simp only [BB]; grind
  · have hq0 : q = 0 := by omega
    subst hq0
    have e : v = n := by rw [Xr] at hvq; simpa using hvq
    refine Qm (Qz (Qy (Qx fun K hK => ?_))); refine Qq J J J (Qj J J J (Qj J J J (Qv (hK _ _ (Qz (QU ?_)))))); clear hK K; refine QY [_, _] rfl (Qu J (Qu J QQ)) (by rw [e]; rfl) J
theorem gorInt : InGo Tryz.prog 105 := InGo.of Tryz.func105 (by kernel_rfl) (by kernel_rfl)
theorem rmagnitude_ok (n : Int) (h1 : -9223372036854775808 ≤ n) (h2 : n ≤ 9223372036854775807) : Ok Tryz.prog 112 [intC n] (natC n.natAbs) := by
  refine Ok.enter Tryz.func112 J _ Tryz.ntmps112 J ?_
  intro S w; refine Qy (Qx fun K hK => ?_); refine Qj J J J (Qv (hK _ _ (Qz (Qy (Qy ?_))))); clear hK K; refine Qx (fun K hK => ?_); refine Qq J J J (Qk ilss J J J J (Qv (hK _ _ (Qz ?_)))); clear hK K; refine Q1 J (fun h => ?_) (fun h => ?_)
  · refine Qy (Qx fun K hK => ?_); refine Qq J J J (Qk (iadd (by omega) (by omega)) J J J J ?_)
    refine Ops.ineg J J (by omega) (by omega) J ?_
    refine Zf J J uI64 uU64 (wrap_u (by omega) (by omega)) J ?_
    refine Qk (uadd (by omega) (by omega)) J J J J ?_
    rw [show -(n + 1) + 1 = (n.natAbs : Int) by omega]
    refine QX gorWord (rWord_ok n.natAbs (by omega)) J J J J ?_
    refine Qj J J J (Qv (hK _ _ (Qz (QU (QV ?_))))); clear hK K; refine QY [_] rfl (Qu J QQ) J J
  · refine Q0 (Qz (Qy (Qx fun K hK => ?_))); refine Qq J J J (Zf J J uI64 uU64 (wrap_u (by omega) (by omega)) J ?_); rw [show n = (n.natAbs : Int) by omega]
    refine QX gorWord (rWord_ok n.natAbs (by omega)) J J J J ?_
    refine Qj J J J (Qv (hK _ _ (Qz (QU ?_)))); clear hK K; refine QY [_] rfl (Qu J QQ) J J
theorem gormagnitude : InGo Tryz.prog 112 := InGo.of Tryz.func112 (by kernel_rfl) (by kernel_rfl)
set_option maxHeartbeats 2000000 in
theorem rreduced_ok (neg : Bool) (a b : Nat) (h0 : 0 < b) (la : (limbs a).length ≤ 10000) (lb : (limbs b).length ≤ 10000) : Ok Tryz.prog 93 [boolC neg, natC a, natC b] (fracC (redF neg a b)) := by
  have hg0 : 0 < Nat.gcd a b := Nat.gcd_pos_of_pos_right _ h0; have hg1 : Nat.gcd a b ≤ b := Nat.gcd_le_right _ h0; have lg : (limbs (Nat.gcd a b)).length ≤ 10000 := Nat.le_trans (Xu hg1) lb; have h1 := rGcd_ok a b la lb; have h2 := rSplit_ok a _ hg0 la lg; have h3 := rSplit_ok b _ hg0 lb lg
  have e0 : a ≠ 0 → redF neg a b = ⟨neg, a / Nat.gcd a b, b / Nat.gcd a b⟩ := fun ha => by
    unfold redF
    have : a / Nat.gcd a b ≠ 0 := by
      have := Nat.div_pos (Nat.gcd_le_left b (Nat.pos_of_ne_zero ha)) hg0; omega
    simp [this]
  have e1 : a = 0 → redF neg a b = ⟨false, 0, 1⟩ := fun ha => by
    subst ha; unfold redF; simp [Nat.div_self h0]
  have e11 : natC 1 = .fr (sliceT 1 [[intC 1]]) := by show intsC (limbs 1) = _; rw [Y7 (by decide) (by decide)]; rfl
  generalize Nat.gcd a b = g at *
  refine Ok.enter Tryz.func93 J _ Tryz.ntmps93 J ?_
  intro S w; refine Qy (Qx fun K hK => ?_); refine Qa 0 J J zvFrac J J J (Qv (hK _ _ (Qz (Qy (Qy ?_))))); clear hK K; refine Qx (fun K hK => ?_); refine Qq J J J (Q3 J J sNat.und (List.length_map ..) J (Qk ieql J J J J (Qv (hK _ _ (Qz ?_))))); clear hK K; refine Q1 J (fun h => ?_) (fun h => ?_)
  · have ha : a = 0 := limbs_nil (List.eq_nil_of_length_eq_zero (by omega)); have e2 := e1 ha; refine Qy (Qx fun K hK => ?_)
    refine XZ J J sNat J J J ?_
    rw [← e11]; refine Xa J bFrac J (.one J J J J .nil) J (Q8 3 J J J J J szFrac J J (Qv (hK _ _ (Qz (QU (QV ?_)))))); clear hK K; refine QY [_] rfl (Xh (w_agg (ds := [boolC false, intsC [], natC 1]) (by exact ⟨Z4, w_nil, Z4, trivial⟩)) (Qp (n := 3) J J Qg J QQ)) (by rw [e2, ← natC_zero]; rfl) J
  · have ha : a ≠ 0 := fun ha => h (by rw [ha, limbs_zero]; rfl)
    have e2 := e0 ha; refine Q0 (Qz (Qy (Qx fun K hK => ?_))); refine Qq J J J (Qq J J J (QX gorGcd h1 J J J J (Qj J J J (Qv (hK _ _ (Qz (Qy ?_))))))); clear hK K; refine Qx (fun K hK => ?_); refine Qq J J J (Qq J J J (QX gorSplit h2 J J J J (Qq J J J (QZ J J J J (QZ J J J J (Qj J J J (Qj J J J (Qv (hK _ _ (Qz (Qy ?_))))))))))); clear hK K; refine Qx (fun K hK => ?_); refine Qq J J J (Qq J J J (QX gorSplit h3 J J J J (Qq J J J (QZ J J J J (QZ J J J J (Qj J J J (Qj J J J (Qv (hK _ _ (Qz (Qy ?_))))))))))); clear hK K; refine Qx (fun K hK => ?_); refine Qq J J J (Qq J J J (Qq J J J (Xa J bFrac J (.one J J J J (.one J J J J (.one J J J J .nil))) J (Q8 3 J J J J J szFrac J J (Qv (hK _ _ (Qz (QU ?_)))))))); clear hK K; refine QY [_] rfl (Qp (n := 3) J J Qg J QQ) (by rw [e2]; rfl) J
theorem gorreduced : InGo Tryz.prog 93 := InGo.of Tryz.func93 (by kernel_rfl) (by kernel_rfl)
theorem zBool : (Tryz.prog.info? 4).map (·.size) = some 1 := by kernel_rfl
set_option maxHeartbeats 2000000 in
theorem rFrom_ok (n d : Int) (h1 : -9223372036854775808 ≤ n) (h2 : n ≤ 9223372036854775807) (h3 : -9223372036854775808 ≤ d) (h4 : d ≤ 9223372036854775807) (h0 : d ≠ 0) : Ok Tryz.prog 57 [intC n, intC d] (.fr (tupT [ratC (Rat.divInt n d), intC 0])) := by
  have hl : (limbs n.natAbs).length ≤ 3 := Qf (k := 3) (by omega); have hl2 : (limbs d.natAbs).length ≤ 3 := Qf (k := 3) (by omega); rw [show ratC (Rat.divInt n d) = fracC (redF (decide (n < 0) != decide (d < 0)) n.natAbs d.natAbs) from by rw [from_redF n d h0]]
  refine Ok.enter Tryz.func57 J _ Tryz.ntmps57 J ?_
  intro S w; refine Qy (Qx fun K hK => ?_); refine Qa 0 J J zvFrac J J J (Qj J J J (Qv (hK _ _ (Qz (Qy (Qy ?_)))))); clear hK K; refine Qx (fun K hK => ?_); refine Qq J J J (Qk ieql J J J J (Qv (hK _ _ (Qz ?_)))); clear hK K; refine Q1 J (fun h => absurd h h0) (fun h => ?_); refine Q0 (Qz (Qy (Qx fun K hK => ?_))); refine Qq J J J (Qk ilss J J J J (Qq J J J (Qk ilss J J J J (YX J J J uBool J ?_)))); rw [dne]; refine Qq J J J (QX gormagnitude (rmagnitude_ok n h1 h2) J J J J (Qq J J J (QX gormagnitude (rmagnitude_ok d h3 h4) J J J J (QX gorreduced (rreduced_ok _ n.natAbs d.natAbs (by omega) (by omega) (by omega)) J J J J ?_)))); refine Q8 3 J J J J J szFrac J J (Qj J J J (Qv (hK _ _ (Qz (QU ?_))))); clear hK K; refine QY [_, _] rfl (Qp (n := 3) J J Qg J (Qu J QQ)) J J
theorem gorFrom : InGo Tryz.prog 57 := InGo.of Tryz.func57 (by kernel_rfl) (by kernel_rfl)
def oppF (f : Fr) : Fr := ⟨!f.neg && decide (f.num ≠ 0), f.num, f.den⟩
theorem oppF_q (q : Rat) : oppF (ofQ q) = ofQ (-q) := by
  unfold oppF ofQ; simp only [Rat.neg_num, Rat.neg_den, Int.natAbs_neg]
  congr 1
  by_cases h : q.num < 0
  · rw [decide_eq_true h, decide_eq_false (show ¬ (-q.num < 0) by omega)]; rfl
  · rw [decide_eq_false h, Bool.not_false, Bool.true_and, decide_eq_decide]; omega
set_option maxHeartbeats 2000000 in
theorem rOpposite_ok (f : Fr) : Ok Tryz.prog 137 [fracC f] (fracC (oppF f)) := by
  refine Ok.enter Tryz.func137 J _ Tryz.ntmps137 J ?_
  intro S w; refine Qy (Qx fun K hK => ?_); refine Qh 0 J J J J J J J (Qa 1 J J zvFrac J J J (Qv (hK _ _ (Qz (Qy ?_))))); clear hK K; refine Qx (fun K hK => ?_); refine QW J J J fF0 J (QK J J J J J lBool J (Qe J J J (Qq J J J (Xe 6 J (fun h => ?_) (fun h => ?_)))))
  · refine QW J J J fF1 J (QK J J J J J lNat J (Q3 J J sNat.und (List.length_map ..) J (Qk igtr J J J J (Q6 J J J J (QW J J J fF0 J (Xv J J J J J zBool (Nat.zero_lt_succ _) (Qv (hK _ _ (Qz (Qy ?_)))))))))); clear hK K; refine Qx (fun K hK => ?_); refine Qd (n := 3) J J J J J Qg J (Q8 3 J J J J J szFrac J J (Qv (hK _ _ (Qz (QU ?_))))); clear hK K; refine QY [_] rfl (Qp (n := 3) J J Qg J QQ) (by unfold oppF; rw [h, ← limbs_len_posI]; rfl) J
  · refine Qw J J J (Qw J J J (Qw J J J (Qw J J J (Q2 J J J J (QW J J J fF0 J (Xv J J J J J zBool (Nat.zero_lt_succ _) (Qv (hK _ _ (Qz (Qy ?_)))))))))); clear hK K; refine Qx (fun K hK => ?_); refine Qd (n := 3) J J J J J Qg J (Q8 3 J J J J J szFrac J J (Qv (hK _ _ (Qz (QU ?_))))); clear hK K; refine QY [_] rfl (Qp (n := 3) J J Qg J QQ) (by unfold oppF; rw [h]; rfl) J
theorem gorOpposite : InGo Tryz.prog 137 := InGo.of Tryz.func137 (by kernel_rfl) (by kernel_rfl)
set_option maxHeartbeats 4000000 in
theorem rsum_ok (f h : Fr) (l1 : (limbs f.num).length ≤ 1000) (l2 : (limbs f.den).length ≤ 1000) (l3 : (limbs h.num).length ≤ 1000) (l4 : (limbs h.den).length ≤ 1000) (d1 : 0 < f.den) (d2 : 0 < h.den) :
    Ok Tryz.prog 95 [fracC f, fracC h] (fracC (redF (sumS f.neg (f.num * h.den) h.neg (h.num * f.den)) (sumN f.neg (f.num * h.den) h.neg (h.num * f.den)) (f.den * h.den))) := by
  have m1 := mul_len l1 l4; have m2 := mul_len l3 l2; have m3 := mul_len l2 l4; have hp := Nat.mul_pos d1 d2; have m4 := sumN_len (n1 := f.neg) (n2 := h.neg) m1 m2; have hr := rreduced_ok (sumS f.neg (f.num * h.den) h.neg (h.num * f.den)) (sumN f.neg (f.num * h.den) h.neg (h.num * f.den)) (f.den * h.den) hp (by omega) (by omega)
  refine Ok.enter Tryz.func95 J _ Tryz.ntmps95 J ?_
  intro S w; generalize redF (sumS f.neg (f.num * h.den) h.neg (h.num * f.den)) (sumN f.neg (f.num * h.den) h.neg (h.num * f.den)) (f.den * h.den) = rr at *; refine Qy (Qx fun K hK => ?_); refine Qh 0 J J J J J J J (Qh 1 J J J J J J J (Qa 2 J J zvFrac J J J (Qv (hK _ _ (Qz (Qy ?_)))))); clear hK K; refine Xz mixed 18 (.p 0 (.p 2 (.p 5 (.p 7 (.p 10 (.p 12 (.f 1 (.f 3 (.f 6 (.f 8 (.f 11 (.f 13 (.m 4 (.m 9 (.m 14 (.p 15 (.p 16 (.p 17 .done)))))))))))))))))) (by kernel_rfl) (fun K hK => ?_); refine QW J J J fF1 J (QW J J J fF2 J (QW J J J fF1 J (QW J J J fF2 J (QW J J J fF2 J (QW J J J fF2 J (QK J J J J J lNat J (QK J J J J J lNat J (QK J J J J J lNat J (QK J J J J J lNat J (QK J J J J J lNat J (QK J J J J J lNat J (QX gorTimes (rTimes_ok f.num h.den (by omega)) J J J J ?_)))))))))))); skip
  refine QX gorTimes (rTimes_ok h.num f.den (by omega)) J J J J ?_
  skip
  refine QX gorTimes (rTimes_ok f.den h.den (by omega)) J J J J ?_
  refine Qj J J J (Qj J J J (Qj J J J (Qv (hK _ _ (Qz (Qy (Qy ?_))))))); clear hK K; refine Qx (fun K hK => ?_); refine QW J J J fF0 J (QK J J J J J lBool J (QW J J J fF0 J (QK J J J J J lBool J (Ops.beq J J J uBool J (Qv (hK _ _ (Qz ?_))))))); clear hK K; refine Zz J (fun g => ?_) (fun g => ?_)
  · have g' : f.neg = h.neg := by simpa using g
    have e1 : sumN f.neg (f.num * h.den) h.neg (h.num * f.den) = f.num * h.den + h.num * f.den := by unfold sumN; rw [if_pos g']
    have e2 : sumS f.neg (f.num * h.den) h.neg (h.num * f.den) = f.neg := by unfold sumS; rw [if_pos g']
    rw [e1, e2] at hr; refine Qy (Xz mixed 7 (.p 0 (.p 2 (.p 3 (.p 5 (.f 1 (.m 4 (.m 6 (.a 7 .done)))))))) (by kernel_rfl) (fun K hK => ?_)); refine QW J J J fF0 J (Qq J J J (Qq J J J (Qq J J J (QK J J J J J lBool J (QX gorPlus (Yi (f.num * h.den) (h.num * f.den) (by omega) (by omega)) J J J J ?_))))); refine QX gorreduced hr J J J J (Q8 3 J J J J J szFrac J J (Qv (hK _ _ (Qz (QU (QV ?_)))))); clear hK K; refine QY [_] rfl (Qp (n := 3) J J Qg J QQ) J J
  · have g' : ¬ f.neg = h.neg := by simpa using g
    refine Q0 (Qz (Qy (Qy (Qx fun K hK => ?_)))); refine Qq J J J (Qq J J J (QX gorCompare (rCompare_ok (f.num * h.den) (h.num * f.den) (by omega) (by omega)) J J J J ?_)); refine Qk igeq J J J J (Qv (hK _ _ (Qz ?_))); clear hK K; refine Q1 J (fun g2 => ?_) (fun g2 => ?_)
    · have hle : h.num * f.den ≤ f.num * h.den := by have := Yf (a := ((f.num * h.den : Nat) : Int)) (b := ((h.num * f.den : Nat) : Int)); omega
      have e1 : sumN f.neg (f.num * h.den) h.neg (h.num * f.den) = f.num * h.den - h.num * f.den := by unfold sumN; rw [if_neg g', if_neg (by omega)]
      have e2 : sumS f.neg (f.num * h.den) h.neg (h.num * f.den) = f.neg := by unfold sumS; rw [if_neg g', if_neg (by omega)]
      rw [e1, e2] at hr; refine Qy (Xz mixed 7 (.p 0 (.p 2 (.p 3 (.p 5 (.f 1 (.m 4 (.m 6 (.a 7 .done)))))))) (by kernel_rfl) (fun K hK => ?_)); refine QW J J J fF0 J (Qq J J J (Qq J J J (Qq J J J (QK J J J J J lBool J (QX gorLess (rLess_ok (f.num * h.den) (h.num * f.den) hle (by omega)) J J J J ?_))))); refine QX gorreduced hr J J J J (Q8 3 J J J J J szFrac J J (Qv (hK _ _ (Qz (QU (QV ?_)))))); clear hK K; refine QY [_] rfl (Qp (n := 3) J J Qg J QQ) J J
    · have hlt : f.num * h.den < h.num * f.den := by have := Yf (a := ((f.num * h.den : Nat) : Int)) (b := ((h.num * f.den : Nat) : Int)); omega
      have e1 : sumN f.neg (f.num * h.den) h.neg (h.num * f.den) = h.num * f.den - f.num * h.den := by unfold sumN; rw [if_neg g', if_pos hlt]
      have e2 : sumS f.neg (f.num * h.den) h.neg (h.num * f.den) = h.neg := by unfold sumS; rw [if_neg g', if_pos hlt]
      rw [e1, e2] at hr; refine Q0 (Qz (Qy ?_)); refine Xz mixed 7 (.p 0 (.p 2 (.p 3 (.p 5 (.f 1 (.m 4 (.m 6 (.a 7 .done)))))))) (by kernel_rfl) (fun K hK => ?_); refine QW J J J fF0 J (Qq J J J (Qq J J J (Qq J J J (QK J J J J J lBool J (QX gorLess (rLess_ok (h.num * f.den) (f.num * h.den) (by omega) (by omega)) J J J J ?_))))); refine QX gorreduced hr J J J J (Q8 3 J J J J J szFrac J J (Qv (hK _ _ (Qz (QU ?_))))); clear hK K; refine QY [_] rfl (Qp (n := 3) J J Qg J QQ) J J
theorem gorsum : InGo Tryz.prog 95 := InGo.of Tryz.func95 (by kernel_rfl) (by kernel_rfl)
attribute [local irreducible] OkM
theorem gorNValid : InGo Tryz.prog 111 := InGo.of Tryz.func111 (by kernel_rfl) (by kernel_rfl)
set_option maxHeartbeats 4000000 in
theorem rNValid_ok (xs : List Int) (hl : xs.length < 4611686018427387904) : Ok Tryz.prog 111 [intsC xs] (boolC (validL xs)) := by
  refine Ok.enter Tryz.func111 J _ Tryz.ntmps111 J ?_
  intro S w; refine Qy (Qx fun K hK => ?_); refine Qj J J J (Qv (hK _ _ (Qz (Qy (Qy ?_))))); clear hK K; refine Qx (fun K hK => ?_); refine Qj J J J (Qv (hK _ _ (Qz (Q4 ?_)))); clear hK K
  refine Qn (α := Nat) (fun i => i ≤ xs.length ∧ (xs.take i).all (fun x => decide (0 ≤ x) && decide (x < BB)) = true)
    (fun i => [(0, .ct (intsC xs)), (3, .ct (intC i))]) (fun _ => []) (fun i => xs.length - i) 0 ⟨Nat.zero_le _, rfl⟩ (by exact QJ J ⟨rfl, rfl, trivial⟩) ?_
  intro i ⟨hi, hv⟩; dsimp only; refine Qy (Qy (Qx fun K hK => ?_)); refine Qq J J J (Qq J J J (Q3 J J sNat.und (List.length_map ..) J (Qk ilss J J J J (Qv (hK _ _ (Qz ?_)))))); clear hK K; refine Q1 J (fun h => ?_) (fun h => ?_)
  · have e2 : (i : Int).toNat = i := Int.toNat_natCast i
    have hlt : i < xs.length := by omega
    have hbad : (decide (0 ≤ xs.getD i 0) && decide (xs.getD i 0 < BB)) = false → validL xs = false := fun hp => by
      unfold validL; rw [all_false (p := fun x => decide (0 ≤ x) && decide (x < BB)) hlt hp]; rfl
    refine Q0 (Qz (Qy (Q4 (Qy (Qx fun K hK => ?_))))); refine Qq J J J (Qq J J J (Qc J J J sNat (by omega) (Xw (by omega) (by omega)) J ?_)); refine Ql J J J lInt J (Qk ilss J J J J (Qq J J J ?_)); rw [e2]; skip; refine Qi 15 J (fun h2 => ?_) (fun h2 => ?_)
    · refine Qw J J J (Qw J J J (Qw J J J (Qw J J J (Qw J J J (Q6 J J J J (Qv (hK _ _ (Qz (Xq J (Qy ?_)))))))))); clear hK K; refine Qx (fun K hK => ?_); refine Qj J J J (Qv (hK _ _ (Qz (QU (Q5 (QV (QV (Q5 (QV ?_))))))))); clear hK K; refine QY [_] rfl (Qu J QQ) (by rw [hbad (bad2 (by unfold BB; omega))]; rfl) J
    · refine Qq J J J (Qq J J J (Qc J J J sNat (by omega) (Xw (by omega) (by omega)) J ?_)); refine Ql J J J lInt J (Qk igeq J J J J (Q2 J J J J (Qv (hK _ _ (Qz ?_))))); clear hK K; rw [e2]; skip; refine Q1 J (fun h3 => ?_) (fun h3 => ?_)
      · refine Qy (Qx fun K hK => ?_); refine Qj J J J (Qv (hK _ _ (Qz (QU (Q5 (QV (QV (Q5 (QV ?_))))))))); clear hK K; refine QY [_] rfl (Qu J QQ) (by rw [hbad (bad2 (by unfold BB; omega))]; rfl) J
      · refine Q0 (Qz (Qx fun K hK => ?_)); refine Qq J J J (Qk (iadd (by omega) (by omega)) J J J J ?_); refine Qj J J J (Qv (hK _ _ (Q7 ?_))); clear hK K; refine Qb (i + 1) (by omega) ⟨by omega, ?_⟩ (by exact QJ J ⟨rfl, by simp only [Int.natCast_add]; rfl, trivial⟩); rw [all_take_succ hlt, hv]; exact good2 (by omega) (by unfold BB; omega)
  · have hi' : i = xs.length := by omega
    rw [hi', List.take_length] at hv
    have e : validL xs = (decide (xs.length ≤ 256) && (decide (xs.length = 0) || decide (xs.getD (xs.length - 1) 0 ≠ 0))) := by unfold validL; rw [hv]; simp
    clear h; refine Qm (Qz (Qy (Qx fun K hK => ?_))); refine Qq J J J (Q3 J J sNat.und (List.length_map ..) J (Qk ileq J J J J (Qq J J J (Qi 25 J (fun h2 => ?_) (fun h2 => ?_)))))
    · refine Qq J J J (Q3 J J sNat.und (List.length_map ..) J (Qk ieql J J J J (Qq J J J (Qi 29 J (fun h3 => ?_) (fun h3 => ?_)))))
      · refine Qw J J J (Qw J J J (Qw J J J (Qw J J J (Qw J J J (Qw J J J (Qw J J J (Q6 J J J J (Q6 J J J J (Qj J J J (Qv (hK _ _ (Qz (QU ?_))))))))))))); clear hK K; refine QY [_] rfl (Qu J QQ) (by rw [e, show decide (xs.length ≤ 256) = true by simp; omega, show decide (xs.length = 0) = true by rw [decide_eq_true_eq]; omega]; rfl) J
      · have e1 : ((xs.length : Int) - 1).toNat = xs.length - 1 := by omega
        refine Qq J J J (Qq J J J (Q3 J J sNat.und (List.length_map ..) J (Qk (isub (by omega) (by omega)) J J J J ?_)))
        refine Qc J J J sNat (by omega) (Xw (by omega) (by omega)) J ?_
        refine Ql J J J lInt J (Qk ineq J J J J (Q2 J J J J (Q6 J J J J (Qj J J J (Qv (hK _ _ (Qz (QU ?_)))))))); clear hK K; rw [e1]; skip; refine QY [_] rfl (Qu J QQ) (by rw [e, show decide (xs.length ≤ 256) = true by simp; omega, show decide (xs.length = 0) = false by simp; intro h4; subst h4; simp at h3]; rfl) J
    · refine Qw J J J (Qw J J J (Qw J J J (Qw J J J (Qw J J J (Qw J J J (Qw J J J (Qw J J J (Qw J J J (Qw J J J (Qw J J J (Qw J J J (Q2 J J J J (Qj J J J (Qv (hK _ _ (Qz (QU ?_))))))))))))))))); clear hK K; refine QY [_] rfl (Qu J QQ) (by rw [e, show decide (xs.length ≤ 256) = false by simp; omega]; rfl) J
theorem gorFValid : InGo Tryz.prog 55 := InGo.of Tryz.func55 (by kernel_rfl) (by kernel_rfl)
set_option maxHeartbeats 4000000 in
theorem rFValid_list (neg : Bool) (xs ys : List Int) (hx : xs.length < 4611686018427387904) (hy : ys.length < 4611686018427387904) : Ok Tryz.prog 55 [.fr (aggT [boolC neg, intsC xs, intsC ys])] (boolC (fvalidL neg xs ys)) := by
  refine Ok.enter Tryz.func55 J _ Tryz.ntmps55 J ?_
  intro S w; have e0 : fvalidL neg xs ys = ((validL xs && decide (xs.length ≤ 64)) && (validL ys && decide (ys.length ≤ 64)) && decide (0 < ys.length) && !(neg && decide (xs.length = 0))) := rfl; have h1 := rNValid_ok xs hx; have h2 := rNValid_ok ys hy; generalize validL xs = b1 at e0 h1; generalize validL ys = b2 at e0 h2; generalize fvalidL neg xs ys = r at *; refine Qy (Qx fun K hK => ?_); refine Qh 0 J J J J J J J (Qj J J J (Qv (hK _ _ (Qz (Qy ?_))))); clear hK K; refine Qx (fun K hK => ?_); refine QW J J J fF1 J (QK J J J J J lNat J (QX gorNValid h1 J J J J (Qq J J J (Xe 6 J (fun h => ?_) (fun h => ?_)))))
  · refine QW J J J fF2 J (QK J J J J J lNat J (QX gorNValid h2 J J J J (Q6 J J J J (Qq J J J (Xe 11 J (fun h3 => ?_) (fun h3 => ?_))))))
    · refine QW J J J fF1 J (QK J J J J J lNat J (Q3 J J sNat.und (List.length_map ..) J (Qk ileq J J J J (Q6 J J J J (Qq J J J (Qi 17 J (fun h4 => ?_) (fun h4 => ?_)))))))
      · have h4' : decide (xs.length ≤ 64) = true := decide_eq_true (by omega); refine QW J J J fF2 J (QK J J J J J lNat J (Q3 J J sNat.und (List.length_map ..) J (Qk ileq J J J J (Q6 J J J J (Qq J J J (Qi 23 J (fun h5 => ?_) (fun h5 => ?_)))))))
        · have h5' : decide (ys.length ≤ 64) = true := decide_eq_true (by omega); refine QW J J J fF2 J (QK J J J J J lNat J (Q3 J J sNat.und (List.length_map ..) J (Qk igtr J J J J (Q6 J J J J (Qq J J J (Qi 29 J (fun h6 => ?_) (fun h6 => ?_)))))))
          · have h6' : decide (0 < ys.length) = true := decide_eq_true (by omega); refine QW J J J fF1 J (QK J J J J J lNat J (Q3 J J sNat.und (List.length_map ..) J (Qk igtr J J J J (Qq J J J (Qi 34 J (fun h7 => ?_) (fun h7 => ?_))))))
            · have h7' : decide (xs.length = 0) = false := decide_eq_false (by omega); refine Qw J J J (Qw J J J (Qw J J J (Q6 J J J J (Q6 J J J J (Qj J J J (Qv (hK _ _ (Qz (QU ?_))))))))); clear hK K; refine QY [_] rfl (Qu J QQ) (by rw [e0, h, h3, h4', h5', h6', h7', Bool.and_false]; rfl) J
            · have h7' : decide (xs.length = 0) = true := decide_eq_true (by omega); refine QW J J J fF0 J (QK J J J J J lBool J (Qe J J J (Q2 J J J J (Q6 J J J J (Qj J J J (Qv (hK _ _ (Qz (QU ?_))))))))); clear hK K; refine QY [_] rfl (Qu J QQ) (by rw [e0, h, h3, h4', h5', h6', h7', Bool.and_true]; simp; rfl) J
          · have h6' : decide (0 < ys.length) = false := decide_eq_false (by omega); refine Qw J J J (Qw J J J (Qw J J J (Qw J J J (Qw J J J (Qw J J J (Qw J J J (Qw J J J (Qw J J J (Q2 J J J J (Qj J J J (Qv (hK _ _ (Qz (QU ?_)))))))))))))); clear hK K; refine QY [_] rfl (Qu J QQ) (by rw [e0, h6']; simp; rfl) J
        · have h5' : decide (ys.length ≤ 64) = false := decide_eq_false (by omega); refine Qw J J J (Qw J J J (Qw J J J (Qw J J J (Q2 J J J J (Qq J J J (Qw J J J (Qw J J J (Qw J J J (Qw J J J (Qw J J J (Qw J J J (Qw J J J (Qw J J J (Qw J J J (Q2 J J J J (Qj J J J (Qv (hK _ _ (Qz (QU ?_)))))))))))))))))))); clear hK K; refine QY [_] rfl (Qu J QQ) (by rw [e0, h5']; simp; rfl) J
      · have h4' : decide (xs.length ≤ 64) = false := decide_eq_false (by omega); refine Qw J J J (Qw J J J (Qw J J J (Qw J J J (Q2 J J J J (Qq J J J (Qw J J J (Qw J J J (Qw J J J (Qw J J J (Q2 J J J J (Qq J J J (Qw J J J (Qw J J J (Qw J J J (Qw J J J (Qw J J J (Qw J J J (Qw J J J (Qw J J J (Qw J J J (Q2 J J J J (Qj J J J (Qv (hK _ _ (Qz (QU ?_)))))))))))))))))))))))))); clear hK K; refine QY [_] rfl (Qu J QQ) (by rw [e0, h4']; simp; rfl) J
    · refine Qw J J J (Qw J J J (Qw J J J (Qw J J J (Q2 J J J J (Qq J J J (Qw J J J (Qw J J J (Qw J J J (Qw J J J (Q2 J J J J (Qq J J J (Qw J J J (Qw J J J (Qw J J J (Qw J J J (Q2 J J J J (Qq J J J (Qw J J J (Qw J J J (Qw J J J (Qw J J J (Qw J J J (Qw J J J (Qw J J J (Qw J J J (Qw J J J (Q2 J J J J (Qj J J J (Qv (hK _ _ (Qz (QU ?_)))))))))))))))))))))))))))))))); clear hK K; refine QY [_] rfl (Qu J QQ) (by rw [e0, h3]; simp; rfl) J
  · refine Qw J J J (Qw J J J (Qw J J J (Q2 J J J J (Qq J J J (Qw J J J (Qw J J J (Qw J J J (Qw J J J (Q2 J J J J (Qq J J J (Qw J J J (Qw J J J (Qw J J J (Qw J J J (Q2 J J J J (Qq J J J (Qw J J J (Qw J J J (Qw J J J (Qw J J J (Q2 J J J J (Qq J J J (Qw J J J (Qw J J J (Qw J J J (Qw J J J (Qw J J J (Qw J J J (Qw J J J (Qw J J J (Qw J J J (Q2 J J J J (Qj J J J (Qv (hK _ _ (Qz (QU ?_))))))))))))))))))))))))))))))))))))); clear hK K; refine QY [_] rfl (Qu J QQ) (by rw [e0, h]; rfl) J
theorem rFValid_V (f : Fr) (h : VF f) : Ok Tryz.prog 55 [fracC f] (boolC true) := by
  have := rFValid_list f.neg (limbs f.num) (limbs f.den) (by have := h.num; omega) (by have := h.den; omega); rw [h.list] at this; exact this
theorem golimited : InGo Tryz.prog 92 := InGo.of Tryz.func92 (by kernel_rfl) (by kernel_rfl)
theorem limited_ok (f : Fr) (h : VF f) : Ok Tryz.prog 92 [fracC f] (.fr (tupT [fracC f, intC 0])) := by
  refine Ok.enter Tryz.func92 J _ Tryz.ntmps92 J ?_
  intro S w; refine Qy (Qx fun K hK => ?_); refine Qh 0 J J J J J J J (Qa 1 J J zvFrac J J J (Qj J J J (Qv (hK _ _ (Qz (Qy (Qy ?_))))))); clear hK K; refine Qx (fun K hK => ?_); refine Qd (n := 3) J J J J J Qg J (QX gorFValid (rFValid_V f h) J J J J (Qe J J J (Qv (hK _ _ (Qz (Qr J (Q0 (Qz (Qy ?_))))))))); clear hK K; refine Qx (fun K hK => ?_); refine Qd (n := 3) J J J J J Qg J (Q8 3 J J J J J szFrac J J (Qj J J J (Qv (hK _ _ (Qz (QU ?_)))))); clear hK K; refine QY [_, _] rfl (Qp (n := 3) J J Qg J (Qu J QQ)) J J
theorem gorFMul : InGo Tryz.prog 36 := InGo.of Tryz.func36 (by kernel_rfl) (by kernel_rfl)
set_option maxHeartbeats 4000000 in
theorem rFMul_gen (f h : Fr) (hs1 : (limbs f.num).length + (limbs h.num).length ≤ 64) (hs2 : (limbs f.den).length + (limbs h.den).length ≤ 64) (d1 : 0 < f.den) (d2 : 0 < h.den) :
    Ok Tryz.prog 36 [fracC f, fracC h] (.fr (tupT [ratC (qv f * qv h), intC 0])) := by
  have hp := Nat.mul_pos d1 d2; have l3 := X2 (a := f.num) (b := h.num); have l8 := X2 (a := f.den) (b := h.den); have l4 := Y2 (f.neg != h.neg) (f.num * h.num) _ hp; have l5 := redF_neg (f.neg != h.neg) (f.num * h.num) (f.den * h.den); have l6 : (limbs (redF (f.neg != h.neg) (f.num * h.num) (f.den * h.den)).num).length ≤ 64 := div_len (Nat.le_trans l3 hs1); have l7 := Xu l4.2; have hr := rreduced_ok (f.neg != h.neg) (f.num * h.num) _ hp (by omega) (by omega); show Ok Tryz.prog 36 [fracC f, fracC h] (.fr (tupT [fracC (ofQ (qv f * qv h)), intC 0])); rw [← redF_mul f h d1 d2]; have hV : VF (redF (f.neg != h.neg) (f.num * h.num) (f.den * h.den)) := ⟨l6, by omega, l4.1, l5⟩
  refine Ok.enter Tryz.func36 J _ Tryz.ntmps36 J ?_
  intro S w; generalize redF (f.neg != h.neg) (f.num * h.num) (f.den * h.den) = rr at *; refine Qy (Qx fun K hK => ?_); refine Qh 0 J J J J J J J (Qh 1 J J J J J J J (Qa 2 J J zvFrac J J J (Qj J J J (Qv (hK _ _ (Qz (Qy ?_))))))); clear hK K; refine Xz mixed 19 (.p 0 (.p 2 (.p 5 (.p 7 (.p 10 (.p 12 (.f 1 (.f 3 (.p 4 (.f 6 (.f 8 (.f 11 (.f 13 (.m 9 (.m 14 (.m 15 (.m 16 (.p 17 (.p 18 (.a 19 (.p 20 .done))))))))))))))))))))) (by kernel_rfl) (fun K hK => ?_); refine QW J J J fF0 J (QW J J J fF0 J (QW J J J fF1 J (QW J J J fF1 J (QW J J J fF2 J (QW J J J fF2 J (QK J J J J J lBool J (QK J J J J J lBool J (YX J J J uBool J ?_)))))))); rw [dne]; refine QK J J J J J lNat J (QK J J J J J lNat J (QK J J J J J lNat J (QK J J J J J lNat J (QX gorTimes (rTimes_ok f.num h.num (by omega)) J J J J ?_)))); skip
  refine QX gorTimes (rTimes_ok f.den h.den (by omega)) J J J J ?_
  refine QX gorreduced hr J J J J (QX golimited (limited_ok rr hV) J J J J (QZ J J J J (QZ J J J J (Q8 3 J J J J J szFrac J J (Qj J J J (Qv (hK _ _ (Qz (QU ?_))))))))); clear hK K; refine QY [_, _] rfl (Qp (n := 3) J J Qg J (Qu J QQ)) J J
theorem gorFAdd : InGo Tryz.prog 38 := InGo.of Tryz.func38 (by kernel_rfl) (by kernel_rfl)
set_option maxHeartbeats 4000000 in
theorem rFAdd_fine (f h : Fr) (h1 : (limbs f.num).length + (limbs h.den).length ≤ 63) (h3 : (limbs h.num).length + (limbs f.den).length ≤ 63) (hs2 : (limbs f.den).length + (limbs h.den).length ≤ 64) (d1 : 0 < f.den) (d2 : 0 < h.den) :
    Ok Tryz.prog 38 [fracC f, fracC h] (.fr (tupT [ratC (qv f + qv h), intC 0])) := by
  have hp := Nat.mul_pos d1 d2; have l1 : (limbs (f.num * h.den)).length ≤ 63 := Nat.le_trans X2 h1; have l2 : (limbs (h.num * f.den)).length ≤ 63 := Nat.le_trans X2 h3; have l3 := sumN_len (n1 := f.neg) (n2 := h.neg) l1 l2; have l8 := X2 (a := f.den) (b := h.den); have l4 := Y2 (sumS f.neg (f.num * h.den) h.neg (h.num * f.den)) (sumN f.neg (f.num * h.den) h.neg (h.num * f.den)) _ hp; have l5 := redF_neg (sumS f.neg (f.num * h.den) h.neg (h.num * f.den)) (sumN f.neg (f.num * h.den) h.neg (h.num * f.den)) (f.den * h.den); have l6 : (limbs (redF (sumS f.neg (f.num * h.den) h.neg (h.num * f.den)) (sumN f.neg (f.num * h.den) h.neg (h.num * f.den)) (f.den * h.den)).num).length ≤ 64 := div_len l3; have l7 := Xu l4.2; have hs := rsum_ok f h (by omega) (by omega) (by omega) (by omega) d1 d2; show Ok Tryz.prog 38 [fracC f, fracC h] (.fr (tupT [fracC (ofQ (qv f + qv h)), intC 0])); rw [← redF_add f h d1 d2]; have hV : VF (redF (sumS f.neg (f.num * h.den) h.neg (h.num * f.den)) (sumN f.neg (f.num * h.den) h.neg (h.num * f.den)) (f.den * h.den)) := ⟨l6, by omega, l4.1, l5⟩
  refine Ok.enter Tryz.func38 J _ Tryz.ntmps38 J ?_
  intro S w; generalize redF (sumS f.neg (f.num * h.den) h.neg (h.num * f.den)) (sumN f.neg (f.num * h.den) h.neg (h.num * f.den)) (f.den * h.den) = rr at *; refine Qy (Qx fun K hK => ?_); refine Qh 0 J J J J J J J (Qh 1 J J J J J J J (Qa 2 J J zvFrac J J J (Qj J J J (Qv (hK _ _ (Qz (Qy ?_))))))); clear hK K; refine Qx (fun K hK => ?_); refine Qd (n := 3) J J J J J Qg J (Qd (n := 3) J J J J J Qg J (QX gorsum hs J J J J (QX golimited (limited_ok rr hV) J J J J (QZ J J J J (QZ J J J J (Q8 3 J J J J J szFrac J J (Qj J J J (Qv (hK _ _ (Qz (QU ?_))))))))))); clear hK K; refine QY [_, _] rfl (Qp (n := 3) J J Qg J (Qu J QQ)) J J
theorem Z9 : InGo Tryz.prog 61 := InGo.of Tryz.func61 (by kernel_rfl) (by kernel_rfl)
theorem Z2 (n : Int) (h1 : -9223372036854775808 ≤ n) (h2 : n ≤ 9223372036854775807) : Ok Tryz.prog 61 [intC n] (ratC (n : Rat)) := by
  have hF := rFrom_ok n 1 h1 h2 (by decide) (by decide) (by decide); rw [divInt_one] at hF
  refine Ok.enter Tryz.func61 J _ Tryz.ntmps61 J ?_
  intro S w; refine Qy (Qx fun K hK => ?_); refine Qa 0 J J zvFrac J J J (Qv (hK _ _ (Qz (Qy ?_)))); clear hK K; refine Qx (fun K hK => ?_); refine Qq J J J (QX gorFrom hF J J J J (Qq J J J (QZ J J J J (QZ J J J J (Qa 1 J J zvFrac J J J (Q8 3 J J J J J szFrac J J (Qj J J J (Qv (hK _ _ (Qz (Qy ?_))))))))))); clear hK K; refine Qx (fun K hK => ?_); refine Qd (n := 3) J J J J J Qg J (Q8 3 J J J J J szFrac J J (Qv (hK _ _ (Qz (QU ?_))))); clear hK K; refine QY [_] rfl (Qp (n := 3) J J Qg J QQ) J J
theorem gorValue : InGo Tryz.prog 18 := InGo.of Tryz.func18 (by kernel_rfl) (by kernel_rfl)
set_option maxHeartbeats 8000000 in
theorem rValue_gen (c : List Int) (xs : List Fr) (H : VFit c xs) : Ok Tryz.prog 18 [intsC c, fracsC xs] (.fr (tupT [ratC (vsum c xs), intC 0])) := by
  have hcl := H.cl; have hxl := H.xl
  refine Ok.enter Tryz.func18 J _ Tryz.ntmps18 J ?_
  intro S w; refine Qy (Qx fun K hK => ?_); refine Qa 0 J J zvFrac J J J (Qj J J J (Qv (hK _ _ (Qz (Qy ?_))))); clear hK K; refine Qx (fun K hK => ?_)
  refine QX Z9 (Z2 0 (by decide) (by decide)) J J J J ?_
  refine Qa 1 J J zvFrac J J J (Q8 3 J J J J J szFrac J J (Qv (hK _ _ (Qz (Qy (Qy ?_)))))); clear hK K; refine Qx (fun K hK => ?_); refine Qj J J J (Qv (hK _ _ (Qz (Q4 ?_)))); clear hK K
  refine Qn (α := Nat) (fun i => i ≤ min c.length xs.length)
    (fun i => [(0, .ct (intsC c)), (1, .ct (fracsC xs)), (4, .own 0), (6, .own 1), (7, .ct (intC i))])
    (fun i => [(1, .box 38 (frCs (ofQ (psum c xs i)))), (0, .box 38 [.ex (.bool false), .ex (.slice none 0 0), .ex (.slice none 0 0)])]) (fun i => min c.length xs.length - i) 0 (Nat.zero_le _) (by exact QJ J ⟨rfl, rfl, rfl, rfl, rfl, trivial⟩) ?_
  intro i hi
  (try dsimp only at hi ⊢)
  have es : psum c xs (i + 1) = psum c xs i + (c.getD i 0 : Rat) * qv (xs.getD i fr0) := rfl; refine Qy (Qy (Qx fun K hK => ?_)); refine Qq J J J (Qq J J J (Q3 J J sInts.und (List.length_map ..) J (Qk ilss J J J J (Qq J J J (Qi 16 J (fun h => ?_) (fun h => ?_))))))
  · refine Qq J J J (Qq J J J (Q3 J J sFracs.und (List.length_map ..) J (Qk ilss J J J J (Q6 J J J J (Qv (hK _ _ (Qz ?_))))))); clear hK K; refine Q1 J (fun h2 => ?_) (fun h2 => ?_)
    · have e2 : (i : Int).toNat = i := Int.toNat_natCast i
      have hi2 : i < min c.length xs.length := by omega
      have hcb := H.cb i; have hW := Z2 (c.getD i 0) (by omega) (by omega); have hM := rFMul_gen (ofQ (c.getD i 0 : Rat)) (xs.getD i fr0) (H.mn i hi2) (by rw [ofQ_int_den]; have := H.md i hi2; have e : (limbs 1).length ≤ 1 := Qf (by decide); omega) (Xp _) (H.den i hi2); rw [Y6] at hM; have hA := rFAdd_fine (ofQ (psum c xs i)) (ofQ ((c.getD i 0 : Rat) * qv (xs.getD i fr0))) (H.a1 i hi2) (H.a2 i hi2) (H.a3 i hi2) (Xp _) (Xp _); rw [Y6, Y6, ← es] at hA; refine Q0 (Qz (Qy (Q4 (Qy ?_)))); refine Xz mixed 14 (.p 0 (.p 1 (.p 2 (.p 5 (.p 6 (.p 7 (.f 3 (.f 8 (.fork 4 (.fork 9 (.p 10 (.p 11 (.p 12 (.m 13 (.a 14 (.p 15 .done)))))) 13 (.m 9 (.p 10 (.p 11 (.p 12 (.a 14 (.p 15 .done))))))) 13 (.m 4 (.m 9 (.p 10 (.p 11 (.p 12 (.a 14 (.p 15 .done)))))))))))))))) (by kernel_rfl) (fun K hK => ?_); refine (fun (cont : Go.Own.Fin _ [(0, .ct (intsC c)), (1, .ct (fracsC xs)), (4, .own 0), (6, .own 1), (7, .ct (intC i)), (8, .own 2), (9, .ct (intC 0))] [(2, .box 38 (frCs (ofQ ((c.getD i 0 : Rat) * qv (xs.getD i fr0))))), (1, .box 38 (frCs (ofQ (psum c xs i)))), (0, .box 38 [.ex (.bool false), .ex (.slice none 0 0), .ex (.slice none 0 0)])] K) => ?_) (hK _ _ ?_); rotate_left
      · clear hK K; refine Qz (Qy (Qy (Qx fun K hK => ?_))); refine Qq J J J (Qk ineq J J J J (Qv (hK _ _ (Qz (Qr J (Q0 (Qz (Qy ?_)))))))); clear hK K; refine Qx (fun K hK => ?_); refine Qd (n := 3) J J J J J Qg J (Qd (n := 3) J J J J J Qg J (QX gorFAdd hA J J J J (Qq J J J (QZ J J J J (QZ J J J J (Qa 3 J J zvFrac J J J (Q8 3 J J J J J szFrac J J (Qj J J J (Qv (hK _ _ (Qz (Qy (Qy ?_))))))))))))); clear hK K; refine Qx (fun K hK => ?_); refine Qq J J J (Qk ineq J J J J (Qv (hK _ _ (Qz (Qr J (Q0 (Qz ?_))))))); clear hK K; refine Qx (fun K hK => ?_); refine Qd (n := 3) J J J J J Qg J (Q8 3 J J J J J szFrac J J (Qv (hK _ _ (Qz ?_)))); clear hK K; refine Qx (fun K hK => ?_); refine Qq J J J (Qk (iadd (by omega) (by omega)) J J J J ?_); refine Qj J J J (Qv (hK _ _ (Q7 ?_))); clear hK K; refine Xy 3 (Xy 2 ?_); refine Qb (i + 1) (by omega) (by omega) (by exact QJ J ⟨rfl, rfl, rfl, rfl, by simp only [Int.natCast_add]; rfl, trivial⟩)
      clear hK; refine Qq J J J (Qq J J J (Qc J J J sInts (by omega) (Xw (by omega) (by omega)) J ?_)); refine Qq J J J (Qq J J J (Qc J J J sFracs (by omega) (fracs_at (by omega) (by omega)) J ?_)); refine Ql J J J lInt J (Xk (n := 3) J J J Qg J J ?_); rw [e2]; skip
      refine Y0 ?_ ?_
      · refine QX Z9 hW J J J J (Y0 ?_ ?_)
        · refine QX gorFMul hM J J J J (Qq J J J (QZ J J J J (QZ J J J J (Qa 2 J J zvFrac J J J (Q8 3 J J J J J szFrac J J (Qj J J J ?_)))))); exact Qv (Za cont ⟨rfl, rfl, rfl, rfl, rfl, rfl, rfl, trivial⟩)
        · refine Qa 2 J J zvFrac J J J (QX gorFMul hM J J J J (Qq J J J (QZ J J J J (QZ J J J J (Q8 3 J J J J J szFrac J J (Qj J J J ?_)))))); exact Qv (Za cont ⟨rfl, rfl, rfl, rfl, rfl, rfl, rfl, trivial⟩)
      · refine Qa 2 J J zvFrac J J J (QX Z9 hW J J J J (QX gorFMul hM J J J J (Qq J J J (QZ J J J J (QZ J J J J (Q8 3 J J J J J szFrac J J (Qj J J J ?_))))))); exact Qv (Za cont ⟨rfl, rfl, rfl, rfl, rfl, rfl, rfl, trivial⟩)
    · have hi' : i = min c.length xs.length := by omega
      refine Qm (Qz (Qy (Qx fun K hK => ?_))); refine Qd (n := 3) J J J J J Qg J (Q8 3 J J J J J szFrac J J (Qj J J J (Qv (hK _ _ (Qz (QU ?_)))))); clear hK K; refine QY [_, _] rfl (Qp (n := 3) J J Qg J (Qu J QQ)) (by unfold vsum; rw [← hi']; rfl) J
  · have hi' : i = min c.length xs.length := by omega
    refine Qw J J J (Qw J J J (Qw J J J (Qw J J J (Q2 J J J J (Qv (hK _ _ (Qz (Qr J (Qm (Qz (Qy ?_))))))))))); clear hK K; refine Qx (fun K hK => ?_); refine Qd (n := 3) J J J J J Qg J (Q8 3 J J J J J szFrac J J (Qj J J J (Qv (hK _ _ (Qz (QU ?_)))))); clear hK K; refine QY [_, _] rfl (Qp (n := 3) J J Qg J (Qu J QQ)) (by unfold vsum; rw [← hi']; rfl) J
theorem gorValidGoal : InGo Tryz.prog 75 := InGo.of Tryz.func75 (by kernel_rfl) (by kernel_rfl)
set_option maxHeartbeats 4000000 in
theorem rValidGoal_ok (n : Int) (xs : List Int) (hl : xs.length < 4611686018427387904) : Ok Tryz.prog 75 [intC n, intsC xs] (boolC (okCoeffs n xs)) := by
  refine Ok.enter Tryz.func75 J _ Tryz.ntmps75 J ?_
  intro S w; refine Qy (Qx fun K hK => ?_); refine Qj J J J (Qv (hK _ _ (Qz (Qy (Qy ?_))))); clear hK K; refine Qx (fun K hK => ?_); refine Qq J J J (Q3 J J sInts.und (List.length_map ..) J (Qq J J J (Qk igtr J J J J (Qv (hK _ _ (Qz ?_)))))); clear hK K; refine Q1 J (fun h => ?_) (fun h => ?_)
  · refine Qy (Qx fun K hK => ?_); refine Qj J J J (Qv (hK _ _ (Qz (QU (QV ?_))))); clear hK K; refine QY [_] rfl (Qu J QQ) (by unfold okCoeffs; rw [decide_eq_false (by omega)]; rfl) J
  have e0 : okCoeffs n xs = !xs.any badC := by unfold okCoeffs; rw [decide_eq_true (by omega)]; rfl
  refine Q0 (Qz (Qy (Qy (Qx fun K hK => ?_)))); refine Qj J J J (Qv (hK _ _ (Qz (Q4 ?_)))); clear hK K
  refine Qn (α := Nat) (fun i => i ≤ xs.length ∧ ∀ j, j < i → badC (xs.getD j 0) = false)
    (fun i => [(0, .ct (intC n)), (1, .ct (intsC xs)), (5, .ct (intC i))]) (fun _ => []) (fun i => xs.length - i) 0 ⟨Nat.zero_le _, fun j h => absurd h (Nat.not_lt_zero j)⟩ (by exact QJ J ⟨rfl, rfl, rfl, trivial⟩) ?_
  intro i ⟨hi, hv⟩
  (try dsimp only at hi hv ⊢)
  refine Qy (Qy (Qx fun K hK => ?_)); refine Qq J J J (Qq J J J (Q3 J J sInts.und (List.length_map ..) J (Qk ilss J J J J (Qv (hK _ _ (Qz ?_)))))); clear hK K; refine Q1 J (fun h2 => ?_) (fun h2 => ?_)
  · have e2 : (i : Int).toNat = i := Int.toNat_natCast i
    have hlt : i < xs.length := by omega
    have bad : badC (xs.getD i 0) = true → okCoeffs n xs = false := fun hb => by
      rw [e0, List.any_eq_true.mpr ⟨_, Xj hlt, hb⟩]; rfl
    have bd : badC (xs.getD i 0) = (decide (xs.getD i 0 < -1048576) || decide (1048576 < xs.getD i 0)) := rfl; refine Q0 (Qz (Qy (Q4 (Qy (Qx fun K hK => ?_))))); refine Qq J J J (Qq J J J (Qc J J J sInts (by omega) (Xw (by omega) (by omega)) J ?_)); refine Ql J J J lInt J (Qk ilss J J J J (Qq J J J ?_)); rw [e2]; skip; refine Qi 21 J (fun h3 => ?_) (fun h3 => ?_)
    · refine Qw J J J (Qw J J J (Qw J J J (Qw J J J (Qw J J J (Q6 J J J J (Qv (hK _ _ (Qz (Xq J (Qy ?_)))))))))); clear hK K; refine Qx (fun K hK => ?_); refine Qj J J J (Qv (hK _ _ (Qz (QU (Q5 (QV (QV (Q5 (QV ?_))))))))); clear hK K; refine QY [_] rfl (Qu J QQ) (by rw [bad (by rw [bd, decide_eq_true h3]; rfl)]; rfl) J
    · refine Qq J J J (Qq J J J (Qc J J J sInts (by omega) (Xw (by omega) (by omega)) J ?_)); refine Ql J J J lInt J (Qk igtr J J J J (Q2 J J J J (Qv (hK _ _ (Qz ?_))))); clear hK K; rw [e2]; skip; refine Q1 J (fun h4 => ?_) (fun h4 => ?_)
      · refine Qy (Qx fun K hK => ?_); refine Qj J J J (Qv (hK _ _ (Qz (QU (Q5 (QV (QV (Q5 (QV ?_))))))))); clear hK K; refine QY [_] rfl (Qu J QQ) (by rw [bad (by rw [bd, decide_eq_true h4, Bool.or_true])]; rfl) J
      · refine Q0 (Qz (Qx fun K hK => ?_)); refine Qq J J J (Qk (iadd (by omega) (by omega)) J J J J ?_); refine Qj J J J (Qv (hK _ _ (Q7 ?_))); clear hK K; refine Qb (i + 1) (by omega) ⟨by omega, ?_⟩ (by exact QJ J ⟨rfl, rfl, by simp only [Int.natCast_add]; rfl, trivial⟩); intro j hj; rcases Nat.lt_or_ge j i with h5 | h5
        · exact hv j h5
        · rw [show j = i by omega, bd, decide_eq_false h3, decide_eq_false h4]; rfl
  · have hi' : i = xs.length := by omega
    refine Qm (Qz (Qy (Qx fun K hK => ?_))); refine Qj J J J (Qv (hK _ _ (Qz (QU ?_)))); clear hK K
    refine QY [_] rfl (Qu J QQ) (by
      rw [e0, show xs.any badC = false from List.any_eq_false.mpr fun x hx => by
        obtain ⟨j, hj, rfl⟩ := List.getElem_of_mem hx; have := hv j (by omega); rw [List.getD_eq_getElem?_getD, List.getElem?_eq_getElem hj] at this
        simpa using this]; rfl) J
theorem gorLValid : InGo Tryz.prog 30 := InGo.of Tryz.func30 (by kernel_rfl) (by kernel_rfl)
set_option maxHeartbeats 8000000 in
theorem Zc (n : Int) (rs : List Rw) (hl : rs.length < 4611686018427387904) (hr : ∀ r ∈ rs, r.cs.length < 4611686018427387904) : Ok Tryz.prog 30 [intC n, rowsC rs] (boolC (validR n rs)) := by
  have e0 : validR n rs = (decide (0 ≤ n) && decide (n ≤ 16) && decide (rs.length ≤ 64) && !rs.any (badR n)) := rfl
  refine Ok.enter Tryz.func30 J _ Tryz.ntmps30 J ?_
  intro S w; refine Qy (Qx fun K hK => ?_); refine Qj J J J (Qv (hK _ _ (Qz (Qy (Qy ?_))))); clear hK K; refine Qx (fun K hK => ?_); refine Qq J J J (Qk ilss J J J J (Qq J J J (Qi 8 J (fun h => ?_) (fun h => ?_))))
  · refine Qw J J J (Qw J J J (Q6 J J J J (Qq J J J (Qw J J J (Qw J J J (Qw J J J (Q6 J J J J (Qv (hK _ _ (Qz (Xq J (Qy ?_)))))))))))); clear hK K; refine Qx (fun K hK => ?_); refine Qj J J J (Qv (hK _ _ (Qz (QU (QV ?_))))); clear hK K; refine QY [_] rfl (Qu J QQ) (by rw [e0, decide_eq_false (by omega)]; rfl) J
  refine Qq J J J (Qk igtr J J J J (Q2 J J J J (Qq J J J (Qi 12 J (fun h2 => ?_) (fun h2 => ?_)))))
  · refine Qw J J J (Qw J J J (Qw J J J (Q6 J J J J (Qv (hK _ _ (Qz (Xq J (Qy ?_)))))))); clear hK K; refine Qx (fun K hK => ?_); refine Qj J J J (Qv (hK _ _ (Qz (QU (QV ?_))))); clear hK K; refine QY [_] rfl (Qu J QQ) (by rw [e0, decide_eq_true (show 0 ≤ n by omega), decide_eq_false (show ¬ n ≤ 16 by omega)]; rfl) J
  refine Qq J J J (Q3 J J sRows.und (List.length_map ..) J (Qk igtr J J J J (Q2 J J J J (Qv (hK _ _ (Qz ?_)))))); clear hK K; refine Q1 J (fun h3 => ?_) (fun h3 => ?_)
  · refine Qy (Qx fun K hK => ?_); refine Qj J J J (Qv (hK _ _ (Qz (QU (QV ?_))))); clear hK K; refine QY [_] rfl (Qu J QQ) (by rw [e0, decide_eq_true (show 0 ≤ n by omega), decide_eq_true (show n ≤ 16 by omega), decide_eq_false (show ¬ rs.length ≤ 64 by omega)]; rfl) J
  have e1 : validR n rs = !rs.any (badR n) := by rw [e0, decide_eq_true (show 0 ≤ n by omega), decide_eq_true (show n ≤ 16 by omega), decide_eq_true (show rs.length ≤ 64 by omega)]; rfl
  refine Q0 (Qz (Qy (Qy (Qx fun K hK => ?_)))); refine Qj J J J (Qv (hK _ _ (Qz (Q4 ?_)))); clear hK K
  refine Qn (α := Nat) (fun i => i ≤ rs.length ∧ ∀ j, j < i → badR n (rs.getD j rw0) = false)
    (fun i => [(0, .ct (intC n)), (1, .ct (rowsC rs)), (5, .ct (intC i))]) (fun _ => []) (fun i => rs.length - i) 0 ⟨Nat.zero_le _, fun j h => absurd h (Nat.not_lt_zero j)⟩ (by exact QJ J ⟨rfl, rfl, rfl, trivial⟩) ?_
  intro i ⟨hi, hv⟩
  (try dsimp only at hi hv ⊢)
  refine Qy (Qy (Qx fun K hK => ?_)); refine Qq J J J (Qq J J J (Q3 J J sRows.und (List.length_map ..) J (Qk ilss J J J J (Qv (hK _ _ (Qz ?_)))))); clear hK K; refine Q1 J (fun h4 => ?_) (fun h4 => ?_)
  · have e2 : (i : Int).toNat = i := Int.toNat_natCast i
    have hlt : i < rs.length := by omega
    have hG := rValidGoal_ok n (rs.getD i rw0).cs (hr _ (Xj hlt))
    have bad : badR n (rs.getD i rw0) = true → validR n rs = false := fun hb => by
      rw [e1, List.any_eq_true.mpr ⟨_, Xj hlt, hb⟩]; rfl
    have bd : badR n (rs.getD i rw0) = (!okCoeffs n (rs.getD i rw0).cs || decide ((rs.getD i rw0).b < -4503599627370496) || decide (4503599627370496 < (rs.getD i rw0).b)) := rfl; refine Q0 (Qz (Qy (Q4 (Qy (Qx fun K hK => ?_))))); refine Qq J J J (Qq J J J (Qq J J J (Qc J J J sRows (by omega) (ZQ (by omega) (by omega)) J ?_))); refine ZJ J J fR0 J (Ql J J J lInts J ?_); rw [e2]; skip
    cases hg : okCoeffs n (rs.getD i rw0).cs with
    | false =>
      rw [hg] at hG bd; refine QX gorValidGoal hG J J J J (Qe J J J (Qq J J J (Qw J J J (Qw J J J (Qw J J J (Qw J J J (Qw J J J (Qw J J J (Q6 J J J J (Qq J J J (Qw J J J (Qw J J J (Qw J J J (Qw J J J (Qw J J J (Qw J J J (Q6 J J J J (Qv (hK _ _ (Qz (Xq J (Qy ?_)))))))))))))))))))))); clear hK K; refine Qx (fun K hK => ?_); refine Qj J J J (Qv (hK _ _ (Qz (QU (Q5 (QV (QV (Q5 (QV ?_))))))))); clear hK K; refine QY [_] rfl (Qu J QQ) (by rw [bad (by rw [bd]; rfl)]; rfl) J
    | true =>
      rw [hg] at hG bd; refine QX gorValidGoal hG J J J J (Qe J J J (Qq J J J (Qq J J J (Qq J J J (Qc J J J sRows (by omega) (ZQ (by omega) (by omega)) J ?_))))); refine ZJ J J fR1 J (Ql J J J lInt J (Qk ilss J J J J (Q2 J J J J (Qq J J J ?_)))); rw [e2]; skip; refine Qi 39 J (fun h5 => ?_) (fun h5 => ?_)
      · refine Qw J J J (Qw J J J (Qw J J J (Qw J J J (Qw J J J (Qw J J J (Q6 J J J J (Qv (hK _ _ (Qz (Xq J (Qy ?_))))))))))); clear hK K; refine Qx (fun K hK => ?_); refine Qj J J J (Qv (hK _ _ (Qz (QU (Q5 (QV (QV (Q5 (QV ?_))))))))); clear hK K; refine QY [_] rfl (Qu J QQ) (by rw [bad (by rw [bd, decide_eq_true h5]; rfl)]; rfl) J
      · refine Qq J J J (Qq J J J (Qc J J J sRows (by omega) (ZQ (by omega) (by omega)) J ?_)); refine ZJ J J fR1 J (Ql J J J lInt J (Qk igtr J J J J (Q2 J J J J (Qv (hK _ _ (Qz ?_)))))); clear hK K; rw [e2]; skip; refine Q1 J (fun h6 => ?_) (fun h6 => ?_)
        · refine Qy (Qx fun K hK => ?_); refine Qj J J J (Qv (hK _ _ (Qz (QU (Q5 (QV (QV (Q5 (QV ?_))))))))); clear hK K; refine QY [_] rfl (Qu J QQ) (by rw [bad (by rw [bd, decide_eq_true h6, Bool.or_true])]; rfl) J
        · refine Q0 (Qz (Qx fun K hK => ?_)); refine Qq J J J (Qk (iadd (by omega) (by omega)) J J J J ?_); refine Qj J J J (Qv (hK _ _ (Q7 ?_))); clear hK K; refine Qb (i + 1) (by omega) ⟨by omega, ?_⟩ (by exact QJ J ⟨rfl, rfl, by simp only [Int.natCast_add]; rfl, trivial⟩); intro j hj; rcases Nat.lt_or_ge j i with h7 | h7
          · exact hv j h7
          · rw [show j = i by omega, bd, decide_eq_false h5, decide_eq_false h6]; rfl
  · have hi' : i = rs.length := by omega
    refine Qm (Qz (Qy (Qx fun K hK => ?_))); refine Qj J J J (Qv (hK _ _ (Qz (QU ?_)))); clear hK K
    refine QY [_] rfl (Qu J QQ) (by
      rw [e1, show rs.any (badR n) = false from List.any_eq_false.mpr fun x hx => by
        obtain ⟨j, hj, rfl⟩ := List.getElem_of_mem hx; have := hv j (by omega); rw [List.getD_eq_getElem?_getD, List.getElem?_eq_getElem hj] at this
        simpa using this]; rfl) J
theorem redF_z (S : Bool) (N D : Nat) (hD : 0 < D) : (redF S N D).neg = decide (sg S N < 0) ∧ ((redF S N D).num = 0 ↔ sg S N = 0) := by
  have hz : N / Nat.gcd N D = 0 ↔ N = 0 := by
    have hg : 0 < Nat.gcd N D := Nat.gcd_pos_of_pos_right _ hD; constructor
    · intro h; have h1 := Nat.div_mul_cancel (Nat.gcd_dvd_left N D); rw [h, Nat.zero_mul] at h1; exact h1.symm
    · intro h; rw [h]; exact Nat.zero_div _
  have e1 : sg S N = 0 ↔ N = 0 := by unfold sg; cases S <;> simp
  refine ⟨?_, ?_⟩
  · show (S && decide (N / Nat.gcd N D ≠ 0)) = _; by_cases h : N = 0
    · rw [decide_eq_false (fun h2 => h2 (hz.2 h)), Bool.and_false, decide_eq_false (by have := e1.2 h; omega)]
    · have h2 : N / Nat.gcd N D ≠ 0 := fun h2 => h (hz.1 h2)
      rw [decide_eq_true h2, Bool.and_true]; unfold sg
      cases S with
      | true => rw [if_pos J, decide_eq_true (by omega)]
      | false => rw [if_neg (by decide), decide_eq_false (by omega)]
  · show N / Nat.gcd N D = 0 ↔ _; rw [hz, e1]
theorem gorFOrderQ : InGo Tryz.prog 78 := InGo.of Tryz.func78 (by kernel_rfl) (by kernel_rfl)
set_option maxHeartbeats 8000000 in
theorem rFOrder_q (p q : Rat) (l1 : (limbs (ofQ p).num).length ≤ 1000) (l2 : (limbs (ofQ p).den).length ≤ 1000) (l3 : (limbs (ofQ q).num).length ≤ 1000) (l4 : (limbs (ofQ q).den).length ≤ 1000) : Ok Tryz.prog 78 [ratC p, ratC q] (intC (cmpQ p q)) := by
  have h1 := rOpposite_ok (ofQ q); have h2 := rsum_ok (ofQ p) (oppF (ofQ q)) l1 l2 l3 l4 (Xp p) (Xp q)
  have hz : sg (sumS (ofQ p).neg ((ofQ p).num * (oppF (ofQ q)).den) (oppF (ofQ q)).neg ((oppF (ofQ q)).num * (ofQ p).den)) (sumN (ofQ p).neg ((ofQ p).num * (oppF (ofQ q)).den) (oppF (ofQ q)).neg ((oppF (ofQ q)).num * (ofQ p).den)) = p.num * q.den - q.num * p.den := by
    rw [sum_sg, Y4, Y4, ofQ_sg]
    have e : sg (oppF (ofQ q)).neg (oppF (ofQ q)).num = -q.num := by
      rw [oppF_q, ofQ_sg]; exact Rat.neg_num q
    rw [e, Int.neg_mul]; rfl
  have hr := redF_z (sumS (ofQ p).neg ((ofQ p).num * (oppF (ofQ q)).den) (oppF (ofQ q)).neg ((oppF (ofQ q)).num * (ofQ p).den)) (sumN (ofQ p).neg ((ofQ p).num * (oppF (ofQ q)).den) (oppF (ofQ q)).neg ((oppF (ofQ q)).num * (ofQ p).den)) ((ofQ p).den * (oppF (ofQ q)).den) (Nat.mul_pos (Xp p) (Xp q)); rw [hz] at hr; have hc : cmpQ p q = (p.num * q.den - q.num * p.den).sign := rfl; generalize redF (sumS (ofQ p).neg ((ofQ p).num * (oppF (ofQ q)).den) (oppF (ofQ q)).neg ((oppF (ofQ q)).num * (ofQ p).den)) (sumN (ofQ p).neg ((ofQ p).num * (oppF (ofQ q)).den) (oppF (ofQ q)).neg ((oppF (ofQ q)).num * (ofQ p).den)) ((ofQ p).den * (oppF (ofQ q)).den) = d at *; generalize p.num * q.den - q.num * p.den = z at *; generalize oppF (ofQ q) = oq at *; have hlen := limbs_len_pos (n := d.num)
  have res1 : d.neg = true → cmpQ p q = -1 := fun h => by
    rw [hr.1] at h; rw [hc]; exact Int.sign_eq_neg_one_of_neg (of_decide_eq_true h)
  have res2 : d.neg = false → cmpQ p q = min ((limbs d.num).length : Int) 1 := fun h => by
    rw [hr.1] at h; have h3 := of_decide_eq_false h; rw [hc]; by_cases h4 : z = 0
    · rw [h4]; have := hr.2.2 h4
      have h5 : (limbs d.num).length = 0 := by omega
      rw [h5]; rfl
    · rw [Int.sign_eq_one_of_pos (by omega)]
      have : d.num ≠ 0 := fun h5 => h4 (hr.2.1 h5)
      omega
  clear hr hz hc
  refine Ok.enter Tryz.func78 J _ Tryz.ntmps78 J ?_
  intro S w; refine Qy (Qx fun K hK => ?_); refine Qh 0 J J J J J J J (Qh 1 J J J J J J J (Qj J J J (Qv (hK _ _ (Qz (Qy ?_)))))); clear hK K; refine Xz mixed 5 (.f 0 (.f 1 (.fork 2 (.fork 3 (.m 4 (.a 5 .done)) 4 (.m 3 (.a 5 .done))) 4 (.m 2 (.m 3 (.a 5 .done)))))) (by kernel_rfl) (fun K hK => ?_); refine (fun (cont : Go.Own.Fin _ [(5, .own 2)] [(2, .box 38 (frCs d)), (1, .box 38 (frCs (ofQ q))), (0, .box 38 (frCs (ofQ p)))] K) => ?_) (hK _ _ ?_); rotate_left
  · clear hK K; refine Qz (Qy (Qy (Qx fun K hK => ?_))); refine QW J J J fF0 J (QK J J J J J lBool J (Qv (hK _ _ (Qz ?_)))); clear hK K; refine Zz J (fun g => ?_) (fun g => ?_)
    · refine Qy (Qx fun K hK => ?_); refine Qj J J J (Qv (hK _ _ (Qz (QU (QV ?_))))); clear hK K; refine QY [_] rfl (Qu J QQ) (by rw [res1 g]; rfl) J
    · refine Q0 (Qz (Qy (Qx fun K hK => ?_))); refine QW J J J fF1 J (QK J J J J J lNat J (Q3 J J sNat.und (List.length_map ..) J (Ops.min2 J J J J (Qj J J J (Qv (hK _ _ (Qz (QU ?_)))))))); clear hK K; refine QY [_] rfl (Qu J QQ) (by rw [res2 g]; rfl) J
  clear hK; refine Qd (n := 3) J J J J J Qg J (Qd (n := 3) J J J J J Qg J (Y0 ?_ ?_))
  · refine QX gorOpposite h1 J J J J (Y0 ?_ ?_)
    · refine QX gorsum h2 J J J J (Qa 2 J J zvFrac J J J (Q8 3 J J J J J szFrac J J ?_)); exact Qv (Za cont ⟨rfl, trivial⟩)
    · refine Qa 2 J J zvFrac J J J (QX gorsum h2 J J J J (Q8 3 J J J J J szFrac J J ?_)); exact Qv (Za cont ⟨rfl, trivial⟩)
  · refine Qa 2 J J zvFrac J J J (QX gorOpposite h1 J J J J (QX gorsum h2 J J J J (Q8 3 J J J J J szFrac J J ?_))); exact Qv (Za cont ⟨rfl, trivial⟩)
theorem YK : InGo Tryz.prog 25 := InGo.of Tryz.func25 (by kernel_rfl) (by kernel_rfl)
theorem rFCompare_q (p q : Rat) (l1 : (limbs (ofQ p).num).length ≤ 1000) (l2 : (limbs (ofQ p).den).length ≤ 1000) (l3 : (limbs (ofQ q).num).length ≤ 1000) (l4 : (limbs (ofQ q).den).length ≤ 1000) : Ok Tryz.prog 25 [ratC p, ratC q] (.fr (tupT [intC (cmpQ p q), intC 0])) := by
  refine Ok.enter Tryz.func25 J _ Tryz.ntmps25 J ?_
  intro S w; refine Qy (Qx fun K hK => ?_); refine Qh 0 J J J J J J J (Qh 1 J J J J J J J (Qj J J J (Qj J J J (Qv (hK _ _ (Qz (Qy ?_))))))); clear hK K; refine Qx (fun K hK => ?_); refine Qd (n := 3) J J J J J Qg J (Qd (n := 3) J J J J J Qg J (QX gorFOrderQ (rFOrder_q p q l1 l2 l3 l4) J J J J (Qj J J J (Qj J J J (Qv (hK _ _ (Qz (QU ?_)))))))); clear hK K; refine QY [_, _] rfl (Qu J (Qu J QQ)) J J
theorem goSign : InGo Tryz.prog 83 := InGo.of Tryz.func83 (by kernel_rfl) (by kernel_rfl)
def sgnF (f : Fr) : Int := if f.num = 0 then 0 else if f.neg then -1 else 1
theorem Yn (f : Fr) : Ok Tryz.prog 83 [fracC f] (intC (sgnF f)) := by
  have hlen := limbs_len_pos (n := f.num)
  refine Ok.enter Tryz.func83 J _ Tryz.ntmps83 J ?_
  intro S w; refine Qy (Qx fun K hK => ?_); refine Qh 0 J J J J J J J (Qj J J J (Qv (hK _ _ (Qz (Qy (Q4 (Qy ?_))))))); clear hK K; refine Qx (fun K hK => ?_); refine QW J J J fF1 J (QK J J J J J lNat J (Q3 J J sNat.und (List.length_map ..) J (Qk ieql J J J J (Qj J J J (Qv (hK _ _ (Qz ?_))))))); clear hK K; refine Q1 J (fun h => ?_) (fun h => ?_)
  · refine Qy (Qx fun K hK => ?_); refine Qj J J J (Qv (hK _ _ (Qz (QU (Q5 (QV ?_)))))); clear hK K; refine QY [_] rfl (Qu J QQ) (by unfold sgnF; rw [if_pos (by omega)]; rfl) J
  · refine Qy (Qx fun K hK => ?_); refine QW J J J fF0 J (QK J J J J J lBool J (Qj J J J (Qv (hK _ _ (Qz ?_))))); clear hK K; refine Zz J (fun g => ?_) (fun g => ?_)
    · refine Qy (Qx fun K hK => ?_); refine Qj J J J (Qv (hK _ _ (Qz (QU (Q5 (QV ?_)))))); clear hK K; refine QY [_] rfl (Qu J QQ) (by unfold sgnF; rw [if_neg (by omega), if_pos g]; rfl) J
    · refine Q0 (Qz (Qy (Qx fun K hK => ?_))); refine Qj J J J (Qv (hK _ _ (Qz (QU ?_)))); clear hK K; refine QY [_] rfl (Qu J QQ) (by unfold sgnF; rw [if_neg (by omega), if_neg (by rw [g]; decide)]; rfl) J
theorem goPoint : InGo Tryz.prog 66 := InGo.of Tryz.func66 (by kernel_rfl) (by kernel_rfl)
set_option maxHeartbeats 4000000 in
theorem Point_ok (n : Int) (xs : List Fr) (hxl : xs.length ≤ 1000) (hx : ∀ f ∈ xs, VF f) : Ok Tryz.prog 66 [intC n, fracsC xs] (boolC (decide ((xs.length : Int) = n) && !(xs.any fun f => f.neg))) := by
  refine Ok.enter Tryz.func66 J _ Tryz.ntmps66 J ?_
  intro S w; refine Qy (Qx fun K hK => ?_); refine Qj J J J (Qv (hK _ _ (Qz (Qy (Qy ?_))))); clear hK K; refine Qx (fun K hK => ?_); refine Qq J J J (Q3 J J sFracs.und (List.length_map ..) J (Qq J J J (Qk ineq J J J J (Qv (hK _ _ (Qz ?_)))))); clear hK K; refine Q1 J (fun h => ?_) (fun h => ?_)
  · refine Qy (Qx fun K hK => ?_); refine Qj J J J (Qv (hK _ _ (Qz (QU (QV ?_))))); clear hK K; refine QY [_] rfl (Qu J QQ) (by rw [decide_eq_false h]; rfl) J
  have hn : (xs.length : Int) = n := Classical.byContradiction h; rw [decide_eq_true hn, Bool.true_and]; refine Q0 (Qz (Qy (Qy (Qx fun K hK => ?_)))); refine Qj J J J (Qv (hK _ _ (Qz (Q4 ?_)))); clear hK K
  refine Qn (α := Nat) (fun i => i ≤ xs.length ∧ ∀ j, j < i → (xs.getD j fr0).neg = false)
    (fun i => [(0, .ct (intC n)), (1, .ct (fracsC xs)), (5, .ct (intC i))]) (fun _ => []) (fun i => xs.length - i) 0 ⟨Nat.zero_le _, fun j h => absurd h (Nat.not_lt_zero j)⟩ (by exact QJ J ⟨rfl, rfl, rfl, trivial⟩) ?_
  intro i ⟨hi, hv⟩
  (try dsimp only at hi hv ⊢)
  refine Qy (Qy (Qx fun K hK => ?_)); refine Qq J J J (Qq J J J (Qk ilss J J J J (Qv (hK _ _ (Qz ?_))))); clear hK K; refine Q1 J (fun h2 => ?_) (fun h2 => ?_)
  · have e2 : (i : Int).toNat = i := Int.toNat_natCast i
    have hlt : i < xs.length := by omega
    have hmem := Xj (z := fr0) hlt; have hVF := hx _ hmem; have hV := rFValid_V _ hVF; have hsg := Yn (xs.getD i fr0)
    have hsn : sgnF (xs.getD i fr0) < 0 ↔ (xs.getD i fr0).neg = true := by
      unfold sgnF; by_cases h3 : (xs.getD i fr0).num = 0
      · rw [if_pos h3]; constructor
        · intro h4; omega
        · intro h4; exact absurd h3 (hVF.neg h4)
      · rw [if_neg h3]
        cases (xs.getD i fr0).neg <;> simp
    refine Q0 (Qz (Qy (Q4 (Qy (Qx fun K hK => ?_))))); refine Qq J J J (Qq J J J (Qc J J J sFracs (by omega) (fracs_at (by omega) (by omega)) J ?_))
    refine Xk (n := 3) J J J Qg J J ?_
    rw [e2]; skip; refine QX gorFValid hV J J J J (Qe J J J (Qq J J J (Qq J J J (Qq J J J (Qc J J J sFracs (by omega) (fracs_at (by omega) (by omega)) J ?_)))))
    refine Xk (n := 3) J J J Qg J J ?_
    rw [e2]; skip; refine QX goSign hsg J J J J (Qk ilss J J J J (Q2 J J J J (Qv (hK _ _ (Qz ?_))))); clear hK K; refine Q1 J (fun h3 => ?_) (fun h3 => ?_)
    · refine Qy (Qx fun K hK => ?_); refine Qj J J J (Qv (hK _ _ (Qz (QU (Q5 (QV (QV (Q5 (QV ?_))))))))); clear hK K; refine QY [_] rfl (Qu J QQ) (by rw [List.any_eq_true.mpr ⟨_, hmem, hsn.1 h3⟩]; rfl) J
    · refine Q0 (Qz (Qx fun K hK => ?_)); refine Qq J J J (Qk (iadd (by omega) (by omega)) J J J J ?_); refine Qj J J J (Qv (hK _ _ (Q7 ?_))); clear hK K; refine Qb (i + 1) (by omega) ⟨by omega, ?_⟩ (by exact QJ J ⟨rfl, rfl, by simp only [Int.natCast_add]; rfl, trivial⟩); intro j hj; rcases Nat.lt_or_ge j i with h5 | h5
      · exact hv j h5
      · rw [show j = i by omega]
        cases h6 : (xs.getD i fr0).neg with
        | false => rfl
        | true => exact absurd (hsn.2 h6) h3
  · have hi' : i = xs.length := by omega
    refine Qm (Qz (Qy (Qx fun K hK => ?_))); refine Qj J J J (Qv (hK _ _ (Qz (QU ?_)))); clear hK K
    refine QY [_] rfl (Qu J QQ) (by
      rw [show (xs.any fun f => f.neg) = false from List.any_eq_false.mpr fun x hx => by
        obtain ⟨j, hj, rfl⟩ := List.getElem_of_mem hx; have := hv j (by omega); rw [List.getD_eq_getElem?_getD, List.getElem?_eq_getElem hj] at this
        simpa using this]; rfl) J
theorem gorSatisfies : InGo Tryz.prog 21 := InGo.of Tryz.func21 (by kernel_rfl) (by kernel_rfl)
set_option maxHeartbeats 8000000 in
theorem rSatisfies_gen (n : Int) (rs : List Rw) (xs : List Fr) (hrl : rs.length < 4611686018427387904) (hcl : ∀ r ∈ rs, r.cs.length < 4611686018427387904) (hxl : xs.length ≤ 1000) (hx : ∀ f ∈ xs, VF f) (hS : validR n rs = true → (xs.length : Int) = n → SFit rs xs) :
    Ok Tryz.prog 21 [intC n, rowsC rs, fracsC xs] (boolC (satB n rs xs)) := by
  have hV := Zc n rs hrl hcl; have hP := Point_ok n xs hxl hx
  have hsat : satB n rs xs = (validR n rs && (decide ((xs.length : Int) = n) && !(xs.any fun f => f.neg)) && rs.all fun r => decide (cmpQ (vsum r.cs xs) (r.b : Rat) ≤ 0)) := by
    unfold satB
    cases validR n rs <;> cases decide ((xs.length : Int) = n) <;> simp
  generalize satB n rs xs = res at *
  refine Ok.enter Tryz.func21 J _ Tryz.ntmps21 J ?_
  intro S w
  cases hv : validR n rs with
  | false =>
    rw [hv] at hV hsat; refine Qy (Qx fun K hK => ?_); refine Qj J J J (Qv (hK _ _ (Qz (Qy (Qy ?_))))); clear hK K; refine Qx (fun K hK => ?_); refine Qq J J J (Qq J J J (QX gorLValid hV J J J J (Qe J J J (Qq J J J (Qw J J J (Qw J J J (Qw J J J (Qw J J J (Q6 J J J J (Qv (hK _ _ (Qz (Xq J (Qy ?_)))))))))))))); clear hK K; refine Qx (fun K hK => ?_); refine Qj J J J (Qv (hK _ _ (Qz (QU (QV ?_))))); clear hK K; refine QY [_] rfl (Qu J QQ) (by rw [hsat]; rfl) J
  | true =>
  rw [hv] at hV hsat
  cases hp : (decide ((xs.length : Int) = n) && !(xs.any fun f => f.neg)) with
  | false =>
    rw [hp] at hP hsat; refine Qy (Qx fun K hK => ?_); refine Qj J J J (Qv (hK _ _ (Qz (Qy (Qy ?_))))); clear hK K; refine Qx (fun K hK => ?_); refine Qq J J J (Qq J J J (QX gorLValid hV J J J J (Qe J J J (Qq J J J (Qq J J J (Qq J J J (QX goPoint hP J J J J (Qe J J J (Q2 J J J J (Qv (hK _ _ (Qz (Xq J (Qy ?_)))))))))))))); clear hK K; refine Qx (fun K hK => ?_); refine Qj J J J (Qv (hK _ _ (Qz (QU (QV ?_))))); clear hK K; refine QY [_] rfl (Qu J QQ) (by rw [hsat]; rfl) J
  | true =>
    rw [Bool.and_eq_true] at hp; have hn := of_decide_eq_true hp.1; have H := hS hv hn; obtain ⟨v1, v2, v3, v4⟩ := X4 hv
    have hp2 : (decide ((xs.length : Int) = n) && !(xs.any fun f => f.neg)) = true := by rw [Bool.and_eq_true]; exact hp
    rw [hp2] at hP hsat
    have hsat : res = rs.all fun r => decide (cmpQ (vsum r.cs xs) (r.b : Rat) ≤ 0) := by rw [hsat]; simp
    clear hp hp2 hS hx; refine Qy (Qx fun K hK => ?_); refine Qj J J J (Qv (hK _ _ (Qz (Qy (Qy ?_))))); clear hK K; refine Qx (fun K hK => ?_); refine Qq J J J (Qq J J J (QX gorLValid hV J J J J (Qe J J J (Qq J J J (Qq J J J (Qq J J J (QX goPoint hP J J J J (Qe J J J (Q2 J J J J (Qv (hK _ _ (Qz (Qr J (Q0 (Qz (Qy (Qy ?_))))))))))))))))); clear hK K; refine Qx (fun K hK => ?_); refine Qj J J J (Qv (hK _ _ (Qz (Q4 ?_)))); clear hK K
    refine Qn (α := Nat) (fun i => i ≤ rs.length ∧ ∀ j, j < i → cmpQ (vsum (rs.getD j rw0).cs xs) ((rs.getD j rw0).b : Rat) ≤ 0)
      (fun i => [(1, .ct (rowsC rs)), (2, .ct (fracsC xs)), (7, .ct (intC i))]) (fun _ => []) (fun i => rs.length - i) 0 ⟨Nat.zero_le _, fun j h => absurd h (Nat.not_lt_zero j)⟩ (by exact QJ J ⟨rfl, rfl, rfl, trivial⟩) ?_
    intro i ⟨hi, hj⟩
    (try dsimp only at hi hj ⊢)
    refine Qy (Qy (Qx fun K hK => ?_)); refine Qq J J J (Qq J J J (Q3 J J sRows.und (List.length_map ..) J (Qk ilss J J J J (Qv (hK _ _ (Qz ?_)))))); clear hK K; refine Q1 J (fun h => ?_) (fun h => ?_)
    · have e2 : (i : Int).toNat = i := Int.toNat_natCast i
      have hlt : i < rs.length := by omega
      have hmem := Xj (z := rw0) hlt; obtain ⟨r1, r2, r3⟩ := v4 (rs.getD i rw0) hmem; have hVal := rValue_gen (rs.getD i rw0).cs xs (H.v _ hmem); have hb := int_lens r3; have hCm := rFCompare_q (vsum (rs.getD i rw0).cs xs) ((rs.getD i rw0).b : Rat) (by have := H.s1 _ hmem; omega) (by have := H.s2 _ hmem; omega) (by omega) (by omega); have hFr := Z2 (rs.getD i rw0).b (by omega) (by omega); refine Q0 (Qz (Qy (Q4 (Qy (Qx fun K hK => ?_))))); refine Qq J J J (Qq J J J (Qc J J J sRows (by omega) (ZQ (by omega) (by omega)) J ?_)); refine ZJ J J fR0 J (Ql J J J lInts J (Qq J J J ?_)); rw [e2]; skip; refine QX gorValue hVal J J J J (Qq J J J (QZ J J J J (QZ J J J J (Qa 0 J J zvFrac J J J (Q8 3 J J J J J szFrac J J (Qj J J J (Qv (hK _ _ (Qz (Qy (Qy ?_))))))))))); clear hK K; refine Qx (fun K hK => ?_); refine Qq J J J (Qk ineq J J J J (Qv (hK _ _ (Qz (Qr J (Q0 (Qz (Qy ?_)))))))); clear hK K; refine Xz mixed 13 (.p 1 (.p 2 (.p 3 (.p 4 (.f 0 (.f 5 (.m 6 (.m 7 (.p 8 (.p 9 (.p 10 (.p 11 (.p 12 .done))))))))))))) (by kernel_rfl) (fun K hK => ?_); refine Qq J J J (Qq J J J (Qc J J J sRows (by omega) (ZQ (by omega) (by omega)) J ?_)); refine ZJ J J fR1 J (Qd (n := 3) J J J J J Qg J (Ql J J J lInt J ?_)); rw [e2]; skip
      refine QX Z9 hFr J J J J (QX YK hCm J J J J (Qq J J J (QZ J J J J (QZ J J J J (Qj J J J (Qj J J J (Qv (hK _ _ (Qz (Qy ?_)))))))))); clear hK K; refine Qx (fun K hK => ?_); refine Qq J J J (Qk igtr J J J J (Qv (hK _ _ (Qz ?_)))); clear hK K; refine Q1 J (fun h2 => ?_) (fun h2 => ?_)
      · refine Qy (Qx fun K hK => ?_); refine Qj J J J (Qv (hK _ _ (Qz (QU (Q5 (QV (QV (Q5 (QV ?_))))))))); clear hK K
        refine QY [_] rfl (Qu J QQ) (by
          rw [hsat, List.all_eq_false.mpr ⟨_, hmem, by simp only [decide_eq_true_eq]; omega⟩]; rfl) J
      · refine Q0 (Qz (Qx fun K hK => ?_)); refine Qq J J J (Qk (iadd (by omega) (by omega)) J J J J ?_); refine Qj J J J (Qv (hK _ _ (Q7 ?_))); clear hK K; refine Xy 0 (Qb (i + 1) (by omega) ⟨by omega, ?_⟩ (by exact QJ J ⟨rfl, rfl, by simp only [Int.natCast_add]; rfl, trivial⟩)); intro j hj'; rcases Nat.lt_or_ge j i with h3 | h3
        · exact hj j h3
        · have : j = i := by omega
          rw [this]; omega
    · have hi' : i = rs.length := by omega
      refine Qm (Qz (Qy (Qx fun K hK => ?_))); refine Qj J J J (Qv (hK _ _ (Qz (QU ?_)))); clear hK K
      refine QY [_] rfl (Qu J QQ) (by
        rw [hsat, List.all_eq_true.mpr fun r hr => by
          obtain ⟨j, hj2, rfl⟩ := List.getElem_of_mem hr; have := hj j (by omega); simp only [List.getD_eq_getElem?_getD, List.getElem?_eq_getElem hj2, Option.getD_some] at this
          exact decide_eq_true this]; rfl) J
end Go.Proofs.YtdhmbgogmoaofaaGreat
namespace Go.Proofs.YtdhmbgogmoaofaaGreat
open Go.Own Go.Limbs Go.Det
theorem sm_app (f : Nat → Int) (n : Nat) : ∀ m, sm f (n + m) = sm f n + sm (fun k => f (n + k)) m
  | 0 => by simp [sm]
  | m + 1 => by
    rw [show n + (m + 1) = (n + m) + 1 by omega]
    simp only [sm]
    rw [sm_app f n m]; omega
theorem sm_neg (f : Nat → Int) (m : Nat) : sm (fun k => -(f k)) m = -(sm f m) := by
  have := sm_mul (-1) f m; rw [← Zy (f := fun k => -(f k)) (g := fun k => -1 * f k) fun k _ => by omega] at this; omega
def ca (rs : List Rw) (i j : Nat) : Int := (rs.getD i rw0).cs.getD j 0
def cb (rs : List Rw) (i : Nat) : Int := (rs.getD i rw0).b
section
variable {n : Nat} {rs : List Rw} {c : List Int} {W : Nat} {T : Tv} {bs : List Nat}
def vx (n : Nat) (rs : List Rw) (c : List Int) (bs : List Nat) (x : Vec) (v : Nat) : Int := sm (fun k => if bs.getD k 0 = v then tt (colA n rs c) bs k x else 0) rs.length
theorem vx_row (h : Ph n rs c W T bs) {k : Nat} (hk : k < rs.length) (x : Vec) : vx n rs c bs x (bs.getD k 0) = tt (colA n rs c) bs k x := by
  unfold vx; rw [Yp hk fun j hj hjk => ?_, if_pos J]
  exact if_neg fun e => h.bas.ne (Y3 (i := k) (k := j) (by rw [h.bas.len]; omega) (by rw [h.bas.len]; omega) hjk e.symm)
theorem vx_out {v : Nat} (hv : ∀ k, k < rs.length → bs.getD k 0 ≠ v) (x : Vec) : vx n rs c bs x v = 0 := ZK fun k hk => if_neg (hv k hk)
theorem vx_nn (x : Vec) (hx : ∀ k, k < rs.length → 0 ≤ tt (colA n rs c) bs k x) (v : Nat) : 0 ≤ vx n rs c bs x v := sm_nonneg fun k hk => by
  split
  · exact hx k hk
  · exact Int.le_refl _
theorem Ph.rowsum (h : Ph n rs c (n + rs.length) T bs) {x : Vec} (hx : Vok (rs.length + 2) x) {i : Nat} (hi : i ≤ rs.length) :
    Go.Det.den (colA n rs c) bs * x i = sm (fun v => colA n rs c v i * vx n rs c bs x v) (n + rs.length) + (if i = rs.length then tt (colA n rs c) bs rs.length x else 0) := by
  have e1 : sm (fun v => colA n rs c v i * vx n rs c bs x v) (n + rs.length) = sm (fun k => tt (colA n rs c) bs k x * colA n rs c (bs.getD k 0) i) rs.length := by
    have e2 : ∀ v, colA n rs c v i * vx n rs c bs x v = sm (fun k => colA n rs c v i * (if bs.getD k 0 = v then tt (colA n rs c) bs k x else 0)) rs.length := fun v => by unfold vx; rw [sm_mul]
    rw [Zy (g := fun v => sm (fun k => colA n rs c v i * (if bs.getD k 0 = v then tt (colA n rs c) bs k x else 0)) rs.length) fun v _ => e2 v]; rw [sm_swap (fun k v => colA n rs c v i * (if bs.getD k 0 = v then tt (colA n rs c) bs k x else 0)) rs.length (n + rs.length)]
    refine Zy fun k hk => ?_
    have hb := h.good.cov.bas k hk; rw [Yp hb fun v _ hv => by rw [if_neg (Ne.symm hv), Int.mul_zero], if_pos J, Int.mul_comm]
  rw [h.comp hx, e1]; simp only [sm]; rw [h.z, h.w, colA_z, colA_w]; have u2 : Go.Det.unit (rs.length + 1) i = 0 := if_neg (by omega); rw [u2, Int.mul_zero, Int.add_zero]; by_cases hi2 : i = rs.length
  · rw [if_pos hi2, hi2, show Go.Det.unit rs.length rs.length = 1 from if_pos J, Int.mul_one]
  · rw [if_neg hi2, show Go.Det.unit rs.length i = 0 from if_neg hi2, Int.mul_zero]
theorem low_sum (i : Nat) (hi : i < rs.length) (y : Nat → Int) : sm (fun v => colA n rs c v i * y v) (n + rs.length) = sm (fun j => ca rs i j * y j) n + y (n + i) := by
  rw [sm_app]
  congr 1
  · exact Zy fun v hv => by rw [Yv hv, if_pos hi]; rfl
  · rw [Yp hi fun k hk hki => by rw [Z3 hk, show Go.Det.unit k i = 0 from if_neg (Ne.symm hki), Int.zero_mul], Z3 hi, show Go.Det.unit i i = 1 from if_pos J, Int.one_mul]
theorem goal_sum (y : Nat → Int) : sm (fun v => colA n rs c v rs.length * y v) (n + rs.length) = -(sm (fun j => c.getD j 0 * y j) n) := by
  rw [sm_app, ZK (f := fun k => colA n rs c (n + k) rs.length * y (n + k)) fun k hk => by rw [Z3 hk, show Go.Det.unit k rs.length = 0 from if_neg (by omega), Int.zero_mul], Int.add_zero, ← sm_neg]
  exact Zy fun v hv => by rw [Yv hv, if_neg (by omega), if_pos J]; grind
structure Feas (n : Nat) (rs : List Rw) (D : Int) (X : Nat → Int) : Prop where
  den : 0 < D
  nn : ∀ v, v < n → 0 ≤ X v
  row : ∀ i, i < rs.length → sm (fun j => ca rs i j * X j) n ≤ D * cb rs i
theorem Ph.point (h : Ph n rs c (n + rs.length) T bs) : Feas n rs (Go.Det.den (colA n rs c) bs) (vx n rs c bs (rhsQ rs)) ∧ sm (fun j => c.getD j 0 * vx n rs c bs (rhsQ rs) j) n = tt (colA n rs c) bs rs.length (rhsQ rs) := by
  have hnn := vx_nn (n := n) (rs := rs) (c := c) (bs := bs) (rhsQ rs) h.good.feas; refine ⟨⟨den_pos h.bas.ne, fun v _ => hnn v, fun i hi => ?_⟩, ?_⟩
  · have h1 := h.rowsum (Yo (rs := rs)) (i := i) (by omega); rw [low_sum i hi, if_neg (by omega)] at h1; have h2 := hnn (n + i); have h3 : rhsQ rs i = cb rs i := if_pos hi; rw [h3] at h1; omega
  · have h1 := h.rowsum (Yo (rs := rs)) (i := rs.length) (Nat.le_refl _); rw [goal_sum, if_pos J, show rhsQ rs rs.length = 0 from if_neg (by omega), Int.mul_zero] at h1; omega
theorem Ph.func (h : Ph n rs c W T bs) {g : Nat} (hg : g < rs.length + 2) {x : Vec} (hx : Vok (rs.length + 2) x) : tt (colA n rs c) bs g x = sm (fun k => x k * tt (colA n rs c) bs g (Go.Det.unit k)) (rs.length + 2) := by
  have e : x = comb x Go.Det.unit (rs.length + 2) := by
    funext j
    unfold comb; by_cases hj : j < rs.length + 2
    · rw [Yp hj fun k _ hk => by simp [Go.Det.unit, Ne.symm hk]]; simp [Go.Det.unit]
    · rw [hx j (by omega), ZK fun k hk => by rw [show Go.Det.unit k j = 0 from if_neg (by omega), Int.mul_zero]]
  have e2 : dT (colA n rs c) bs g x = sm (fun k => x k * dT (colA n rs c) bs g (Go.Det.unit k)) (rs.length + 2) := by
    unfold dT
    conv => lhs; rw [e]
    exact Yu (by rw [Zu, h.bas.len]; omega) _ _ _
  unfold tt; rw [e2, ← sm_mul]
  exact Zy fun k _ => by grind
def yx (n : Nat) (rs : List Rw) (c : List Int) (bs : List Nat) (g i : Nat) : Int := tt (colA n rs c) bs g (colA n rs c (n + i))
theorem Ph.dual_sum (h : Ph n rs c W T bs) {g : Nat} (hg : g = rs.length ∨ g = rs.length + 1) {x : Vec} (hx : Vok (rs.length + 2) x) (hx1 : x (rs.length + 1) = 0) :
    tt (colA n rs c) bs g x = sm (fun i => x i * yx n rs c bs g i) rs.length + (if g = rs.length then x rs.length * Go.Det.den (colA n rs c) bs else 0) := by
  rw [h.func (by omega) hx]; simp only [sm]; rw [hx1, Int.zero_mul, Int.add_zero]
  congr 1
  · exact Zy fun k hk => by rw [← Z3 (n := n) (c := c) hk]; rfl
  · rw [← colA_z (n := n) (c := c), ← h.z]; rcases hg with rfl | rfl
    · rw [if_pos J, tt_own h.bas.len (by omega)]
    · rw [if_neg (by omega), Zg h.bas.len (by omega) (by omega) (by omega), Int.mul_zero]
theorem colA_w0 {v : Nat} (hv : v < n + rs.length) : colA n rs c v (rs.length + 1) = 0 := by
  by_cases h1 : v < n
  · rw [Yv h1, if_neg (by omega), if_neg (by omega)]
  · obtain ⟨i, rfl⟩ : ∃ i, v = n + i := ⟨v - n, by omega⟩; rw [Z3 (by omega)]; exact if_neg (by omega)
structure Dual (n : Nat) (rs : List Rw) (c : List Int) (D : Int) (Y : Nat → Int) : Prop where
  den : 0 < D
  nn : ∀ i, i < rs.length → 0 ≤ Y i
  col : ∀ j, j < n → D * c.getD j 0 ≤ sm (fun i => ca rs i j * Y i) rs.length
theorem Ph.dual (h : Ph n rs c W T bs) (hc : ∀ v, v < n + rs.length → 0 ≤ tt (colA n rs c) bs rs.length (colA n rs c v)) :
    Dual n rs c (Go.Det.den (colA n rs c) bs) (yx n rs c bs rs.length) ∧ sm (fun i => cb rs i * yx n rs c bs rs.length i) rs.length = tt (colA n rs c) bs rs.length (rhsQ rs) := by
  refine ⟨⟨den_pos h.bas.ne, fun i hi => hc (n + i) (by omega), fun j hj => ?_⟩, ?_⟩
  · have h1 := h.dual_sum (.inl J) (Y5 (n := n) (rs := rs) (c := c) j) (colA_w0 (by omega)); have h2 := hc j (by omega); rw [h1, if_pos J, Yv hj, if_neg (by omega), if_pos J] at h2
    have e : sm (fun i => colA n rs c j i * yx n rs c bs rs.length i) rs.length = sm (fun i => ca rs i j * yx n rs c bs rs.length i) rs.length := Zy fun i hi => by rw [Yv hj, if_pos hi]; rfl
    rw [e] at h2
    have : -c.getD j 0 * Go.Det.den (colA n rs c) bs = -(Go.Det.den (colA n rs c) bs * c.getD j 0) := by grind
    omega
  · have h1 := h.dual_sum (.inl J) (Yo (rs := rs)) (show rhsQ rs (rs.length + 1) = 0 from if_neg (by omega)); rw [h1, if_pos J, show rhsQ rs rs.length = 0 from if_neg (by omega), Int.zero_mul, Int.add_zero]
    exact Zy fun i hi => by rw [show rhsQ rs i = cb rs i from if_pos hi]
structure Refu (n : Nat) (rs : List Rw) (D : Int) (Y : Nat → Int) : Prop where
  den : 0 < D
  nn : ∀ i, i < rs.length → 0 ≤ Y i
  col : ∀ j, j < n → 0 ≤ sm (fun i => ca rs i j * Y i) rs.length
  neg : sm (fun i => cb rs i * Y i) rs.length < 0
theorem End1.refu {E : Tv} (h : End1 n rs c T E bs) (hv : tt (colA n rs c) bs (rs.length + 1) (rhsQ rs) < 0) : Refu n rs (Go.Det.den (colA n rs c) bs) (yx n rs c bs (rs.length + 1)) := by
  refine ⟨den_pos h.ph.bas.ne, fun i hi => h.cover (n + i) (by omega), fun j hj => ?_, ?_⟩
  · have h1 := h.ph.dual_sum (.inr J) (Y5 (n := n) (rs := rs) (c := c) j) (colA_w0 (by omega)); have h2 := h.cover j (by omega); rw [h1, if_neg (by omega), Int.add_zero] at h2; rw [Zy (g := fun i => ca rs i j * yx n rs c bs (rs.length + 1) i) fun i hi => by rw [Yv hj, if_pos hi]; rfl] at h2; exact h2
  · have h1 := h.ph.dual_sum (.inr J) (Yo (rs := rs)) (show rhsQ rs (rs.length + 1) = 0 from if_neg (by omega)); rw [if_neg (by omega), Int.add_zero] at h1; rw [h1, Zy (g := fun i => cb rs i * yx n rs c bs (rs.length + 1) i) fun i hi => by rw [show rhsQ rs i = cb rs i from if_pos hi]] at hv; exact hv
structure Ray (n : Nat) (rs : List Rw) (c : List Int) (D : Int) (Z : Nat → Int) : Prop where
  den : 0 < D
  nn : ∀ v, v < n → 0 ≤ Z v
  row : ∀ i, i < rs.length → sm (fun j => ca rs i j * Z j) n ≤ 0
  goal : 0 < sm (fun j => c.getD j 0 * Z j) n
def zx (n : Nat) (rs : List Rw) (c : List Int) (bs : List Nat) (s v : Nat) : Int := (if v = s then Go.Det.den (colA n rs c) bs else 0) - vx n rs c bs (colA n rs c s) v
theorem Ph.ray (h : Ph n rs c (n + rs.length) T bs) {s : Nat} (hs : s < n + rs.length) (hb : ∀ k, k < rs.length → bs.getD k 0 ≠ s) (hg : tt (colA n rs c) bs rs.length (colA n rs c s) < 0) (hl : ∀ k, k < rs.length → tt (colA n rs c) bs k (colA n rs c s) ≤ 0) :
    Ray n rs c (Go.Det.den (colA n rs c) bs) (zx n rs c bs s) := by
  have hd := den_pos h.bas.ne
  have hv0 : ∀ v, vx n rs c bs (colA n rs c s) v ≤ 0 := fun v => by
    have : sm (fun k => if bs.getD k 0 = v then tt (colA n rs c) bs k (colA n rs c s) else 0) rs.length ≤ sm (fun _ => 0) rs.length := sm_le fun k hk => by
      split
      · exact hl k hk
      · exact Int.le_refl _
    rw [ZK (f := fun _ => 0) fun _ _ => rfl] at this; exact this
  have hnn : ∀ v, 0 ≤ zx n rs c bs s v := fun v => by
    unfold zx; have := hv0 v
    split <;> omega
  have hsum : ∀ i, sm (fun v => colA n rs c v i * zx n rs c bs s v) (n + rs.length) = Go.Det.den (colA n rs c) bs * colA n rs c s i - sm (fun v => colA n rs c v i * vx n rs c bs (colA n rs c s) v) (n + rs.length) := fun i => by
    have e : sm (fun v => colA n rs c v i * zx n rs c bs s v) (n + rs.length) = sm (fun v => (if v = s then colA n rs c v i * Go.Det.den (colA n rs c) bs else 0) + (-1) * (colA n rs c v i * vx n rs c bs (colA n rs c s) v)) (n + rs.length) := Zy fun v _ => by
      unfold zx
      split <;> grind
    rw [e, sm_add, sm_mul, Yp hs fun v _ hv => if_neg hv, if_pos J, Int.mul_comm]; omega
  refine ⟨hd, fun v _ => hnn v, fun i hi => ?_, ?_⟩
  · have h1 := h.rowsum (Y5 (n := n) (rs := rs) (c := c) s) (i := i) (by omega); rw [if_neg (by omega), Int.add_zero] at h1; have h2 := hsum i; rw [h1, Int.sub_self, low_sum i hi] at h2; have := hnn (n + i); omega
  · have h1 := h.rowsum (Y5 (n := n) (rs := rs) (c := c) s) (i := rs.length) (Nat.le_refl _); rw [if_pos J] at h1; have h2 := hsum rs.length; rw [goal_sum] at h2; omega
theorem Ph.pt_at (h : Ph n rs c (n + rs.length) T bs) {v : Nat} (hv : v < n) : (ptS T n T.bas.length).getD v 0 = shq (vx n rs c bs (rhsQ rs) v) (Go.Det.den (colA n rs c) bs) := by
  have hV := h.good.view; rw [hV.basl]
  have key : ∀ q, q ≤ rs.length → (ptS T n q).getD v 0 = shq (sm (fun k => if bs.getD k 0 = v then tt (colA n rs c) bs k (rhsQ rs) else 0) q) (Go.Det.den (colA n rs c) bs) := by
    intro q hq
    induction q with
    | zero => simp only [ptS, sm, shq_zero]; simp [List.getD_eq_getElem?_getD, List.getElem?_replicate, hv]
    | succ q ih =>
      have ih := ih (by omega); have hbq := hV.basv q (by omega); have hl := ptS_len T n q; simp only [ptS, sm]; by_cases h1 : bs.getD q 0 = v
      · rw [if_pos (by rw [hbq, h1]; omega), hbq, h1, Int.toNat_natCast, Z1 (by omega), if_pos J, if_pos J, hV.den]; rw [ZK fun k hk => if_neg fun e => h.bas.ne (Y3 (i := q) (k := k) (by rw [h.bas.len]; omega) (by rw [h.bas.len]; omega) (by omega) (by rw [h1, e]))]; rw [Int.zero_add, hV.rhs q (by have := hV.rm; omega)]
      · rw [if_neg h1, Int.add_zero, ← ih]; split
        · rw [hbq, Int.toNat_natCast, Z1 (by rw [hl]; omega), if_neg h1]
        · rfl
  exact key rs.length (Nat.le_refl _)
theorem Ph.du_at (h : Ph n rs c W T bs) {g i : Nat} (hW : n + rs.length ≤ W) (hg : rs.length ≤ g) (hgT : g < T.rows.length) (hi : i < rs.length) : (duS T n rs.length g T.col.length).getD i 0 = shq (yx n rs c bs g i) (Go.Det.den (colA n rs c) bs) := by
  have hV := h.good.view; have hC := h.good.cov; have hl := duS_len T n rs.length g
  have hgM : g < rs.length + 2 := by have := hV.rM; omega
  have none : ∀ q, q ≤ T.col.length → (∀ j, j < q → T.col.getD j 0 ≠ ((n + i : Nat) : Int)) → (duS T n rs.length g q).getD i 0 = 0 := by
    intro q hq hn
    induction q with
    | zero => simp only [duS]; simp [List.getD_eq_getElem?_getD, List.getElem?_replicate, hi]
    | succ q ih =>
      have ih := ih (by omega) (fun j hj => hn j (by omega)); simp only [duS]; split
      · rw [Z1 (by rw [hl]; omega), if_neg (by have := hn q (by omega); omega)]; exact ih
      · exact ih
  rcases hC.all (n + i) (by omega) with ⟨k, hk, he⟩ | ⟨j, hj, he⟩
  · have hy : yx n rs c bs g i = 0 := by
      unfold yx; rw [← he]; exact Zg h.bas.len hgM (by omega) (by omega)
    rw [hy, shq_zero]; refine none _ (Nat.le_refl _) (fun j hj e => ?_); have := hC.dis j k hj hk; omega
  · have hy : yx n rs c bs g i = T.at g j := by
      rw [hV.num g hgT j hj, he, Int.toNat_natCast]; rfl
    have key : ∀ q, q ≤ T.col.length → j < q → (duS T n rs.length g q).getD i 0 = shq (T.at g j) T.den := by
      intro q hq hjq
      induction q with
      | zero => omega
      | succ q ih =>
        simp only [duS]; by_cases h1 : j = q
        · subst h1; rw [if_pos (by omega), Z1 (by rw [hl]; omega), if_pos (by omega)]
        · have ih := ih (by omega) (by omega); split
          · rw [Z1 (by rw [hl]; omega), if_neg (by have := hC.inj j q hj (by omega) h1; omega)]; exact ih
          · exact ih
    rw [key _ (Nat.le_refl _) hj, hy, hV.den]
theorem Ph.ra_at (h : Ph n rs c (n + rs.length) T bs) {e s v : Nat} (he : e < T.col.length) (hs : T.col.getD e 0 = (s : Int)) (hv : v < n) : (raS T n e T.bas.length).getD v 0 = shq (zx n rs c bs s v) (Go.Det.den (colA n rs c) bs) := by
  have hV := h.good.view; have hC := h.good.cov; rw [hV.basl]
  have hnb : ∀ k, k < rs.length → bs.getD k 0 ≠ s := fun k hk e2 => by have := hC.dis e k he hk; omega
  have key : ∀ q, q ≤ rs.length → (raS T n e q).getD v 0 = shq ((if v = s then Go.Det.den (colA n rs c) bs else 0) - sm (fun k => if bs.getD k 0 = v then tt (colA n rs c) bs k (colA n rs c s) else 0) q) (Go.Det.den (colA n rs c) bs) := by
    intro q hq
    induction q with
    | zero =>
      simp only [raS, sm, Int.sub_zero]; rw [hs]; by_cases h1 : v = s
      · subst h1; rw [if_pos (by omega), Int.toNat_natCast, Z1 (by simp; omega), if_pos J, if_pos J, hV.den]
      · rw [if_neg h1, shq_zero]; split
        · rw [Int.toNat_natCast, Z1 (by simp; omega), if_neg (Ne.symm h1)]; simp [List.getD_eq_getElem?_getD, List.getElem?_replicate, hv]
        · simp [List.getD_eq_getElem?_getD, List.getElem?_replicate, hv]
    | succ q ih =>
      have ih := ih (by omega); have hbq := hV.basv q (by omega); have hl := raS_len T n e q; simp only [raS, sm]; by_cases h1 : bs.getD q 0 = v
      · have hvs : v ≠ s := fun e2 => hnb q (by omega) (by rw [h1, e2])
        rw [if_pos (by rw [hbq, h1]; omega), hbq, h1, Int.toNat_natCast, Z1 (by omega), if_pos J, if_pos J, if_neg hvs, hV.den]; rw [ZK fun k hk => if_neg fun e2 => h.bas.ne (Y3 (i := q) (k := k) (by rw [h.bas.len]; omega) (by rw [h.bas.len]; omega) (by omega) (by rw [h1, e2]))]; rw [hV.num q (by have := hV.rm; omega) e he, hs, Int.toNat_natCast]
        congr 1; omega
      · rw [if_neg h1, Int.add_zero, ← ih]; split
        · rw [hbq, Int.toNat_natCast, Z1 (by rw [hl]; omega), if_neg h1]
        · rfl
  exact key rs.length (Nat.le_refl _)
end
end Go.Proofs.YtdhmbgogmoaofaaGreat
