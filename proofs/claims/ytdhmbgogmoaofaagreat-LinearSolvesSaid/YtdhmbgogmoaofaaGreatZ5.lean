/- The proof that LinearSolves holds for every input, without conditions: part 5 of 6. -/
import Derived.Test.YtdhmbgogmoaofaaGreatZ4
namespace Go.Proofs.YtdhmbgogmoaofaaGreat
open Go.Own Go.Limbs Go.Det
theorem sm_app (f : Nat → Int) (n : Nat) : ∀ m, sm f (n + m) = sm f n + sm (fun k => f (n + k)) m
  | 0 => by simp [sm]
  | m + 1 => by
    rw [show n + (m + 1) = (n + m) + 1 by omega]
    simp only [sm]
    rw [sm_app f n m]; omega
theorem sm_neg (f : Nat → Int) (m : Nat) : sm (fun k => -(f k)) m = -(sm f m) := by
  have := Y2 (-1) f m; rw [← Xt (f := fun k => -(f k)) (g := fun k => -1 * f k) fun k _ => by omega] at this; omega
def ca (rs : List Rw) (i j : Nat) : Int := (rs.getD i rw0).cs.getD j 0
def cb (rs : List Rw) (i : Nat) : Int := (rs.getD i rw0).b
section
variable {n : Nat} {rs : List Rw} {c : List Int} {W : Nat} {T : Tv} {bs : List Nat}
def vx (n : Nat) (rs : List Rw) (c : List Int) (bs : List Nat) (x : Vec) (v : Nat) : Int := sm (fun k => if bs.getD k 0 = v then tt (colA n rs c) bs k x else 0) rs.length
theorem vx_row (h : Ph n rs c W T bs) {k : Nat} (hk : k < rs.length) (x : Vec) : vx n rs c bs x (bs.getD k 0) = tt (colA n rs c) bs k x := by
  unfold vx; rw [Jw hk fun j hj hjk => ?_, if_pos J]
  exact if_neg fun e => h.bas.ne (Yh (i := k) (k := j) (by rw [h.bas.len]; omega) (by rw [h.bas.len]; omega) hjk e.symm)
theorem vx_out {v : Nat} (hv : ∀ k, k < rs.length → bs.getD k 0 ≠ v) (x : Vec) : vx n rs c bs x v = 0 := Z4 fun k hk => if_neg (hv k hk)
theorem vx_nn (x : Vec) (hx : ∀ k, k < rs.length → 0 ≤ tt (colA n rs c) bs k x) (v : Nat) : 0 ≤ vx n rs c bs x v := sm_nonneg fun k hk => by
  split
  · exact hx k hk
  · exact Int.le_refl _
theorem Ph.rowsum (h : Ph n rs c (n + rs.length) T bs) {x : Vec} (hx : Vok (rs.length + 2) x) {i : Nat} (hi : i ≤ rs.length) :
    Go.Det.den (colA n rs c) bs * x i = sm (fun v => colA n rs c v i * vx n rs c bs x v) (n + rs.length) + (if i = rs.length then tt (colA n rs c) bs rs.length x else 0) := by
  have e1 : sm (fun v => colA n rs c v i * vx n rs c bs x v) (n + rs.length) = sm (fun k => tt (colA n rs c) bs k x * colA n rs c (bs.getD k 0) i) rs.length := by
    have e2 : ∀ v, colA n rs c v i * vx n rs c bs x v = sm (fun k => colA n rs c v i * (if bs.getD k 0 = v then tt (colA n rs c) bs k x else 0)) rs.length := fun v => by unfold vx; rw [Y2]
    rw [Xt (g := fun v => sm (fun k => colA n rs c v i * (if bs.getD k 0 = v then tt (colA n rs c) bs k x else 0)) rs.length) fun v _ => e2 v]; rw [sm_swap (fun k v => colA n rs c v i * (if bs.getD k 0 = v then tt (colA n rs c) bs k x else 0)) rs.length (n + rs.length)]
    refine Xt fun k hk => ?_
    have hb := h.good.cov.bas k hk; rw [Jw hb fun v _ hv => by rw [if_neg (Ne.symm hv), Int.mul_zero], if_pos J, Int.mul_comm]
  rw [h.comp hx, e1]; simp only [sm]; rw [h.z, h.w, colA_z, colA_w]; have u2 : Go.Det.unit (rs.length + 1) i = 0 := if_neg (by omega); rw [u2, Int.mul_zero, Int.add_zero]; by_cases hi2 : i = rs.length
  · rw [if_pos hi2, hi2, show Go.Det.unit rs.length rs.length = 1 from if_pos J, Int.mul_one]
  · rw [if_neg hi2, show Go.Det.unit rs.length i = 0 from if_neg hi2, Int.mul_zero]
theorem low_sum (i : Nat) (hi : i < rs.length) (y : Nat → Int) : sm (fun v => colA n rs c v i * y v) (n + rs.length) = sm (fun j => ca rs i j * y j) n + y (n + i) := by
  rw [sm_app]
  congr 1
  · exact Xt fun v hv => by rw [YW hv, if_pos hi]; rfl
  · rw [Jw hi fun k hk hki => by rw [Zo hk, show Go.Det.unit k i = 0 from if_neg (Ne.symm hki), Int.zero_mul], Zo hi, show Go.Det.unit i i = 1 from if_pos J, Int.one_mul]
theorem goal_sum (y : Nat → Int) : sm (fun v => colA n rs c v rs.length * y v) (n + rs.length) = -(sm (fun j => c.getD j 0 * y j) n) := by
  rw [sm_app, Z4 (f := fun k => colA n rs c (n + k) rs.length * y (n + k)) fun k hk => by rw [Zo hk, show Go.Det.unit k rs.length = 0 from if_neg (by omega), Int.zero_mul], Int.add_zero, ← sm_neg]
  exact Xt fun v hv => by rw [YW hv, if_neg (by omega), if_pos J]; grind
structure Feas (n : Nat) (rs : List Rw) (D : Int) (X : Nat → Int) : Prop where
  den : 0 < D
  nn : ∀ v, v < n → 0 ≤ X v
  row : ∀ i, i < rs.length → sm (fun j => ca rs i j * X j) n ≤ D * cb rs i
theorem Ph.point (h : Ph n rs c (n + rs.length) T bs) : Feas n rs (Go.Det.den (colA n rs c) bs) (vx n rs c bs (rhsQ rs)) ∧ sm (fun j => c.getD j 0 * vx n rs c bs (rhsQ rs) j) n = tt (colA n rs c) bs rs.length (rhsQ rs) := by
  have hnn := vx_nn (n := n) (rs := rs) (c := c) (bs := bs) (rhsQ rs) h.good.feas; refine ⟨⟨den_pos h.bas.ne, fun v _ => hnn v, fun i hi => ?_⟩, ?_⟩
  · have h1 := h.rowsum (JZ (rs := rs)) (i := i) (by omega); rw [low_sum i hi, if_neg (by omega)] at h1; have h2 := hnn (n + i); have h3 : rhsQ rs i = cb rs i := if_pos hi; rw [h3] at h1; omega
  · have h1 := h.rowsum (JZ (rs := rs)) (i := rs.length) (Nat.le_refl _); rw [goal_sum, if_pos J, show rhsQ rs rs.length = 0 from if_neg (by omega), Int.mul_zero] at h1; omega
theorem Ph.func (h : Ph n rs c W T bs) {g : Nat} (hg : g < rs.length + 2) {x : Vec} (hx : Vok (rs.length + 2) x) : tt (colA n rs c) bs g x = sm (fun k => x k * tt (colA n rs c) bs g (Go.Det.unit k)) (rs.length + 2) := by
  have e : x = comb x Go.Det.unit (rs.length + 2) := by
    funext j
    unfold comb; by_cases hj : j < rs.length + 2
    · rw [Jw hj fun k _ hk => by simp [Go.Det.unit, Ne.symm hk]]; simp [Go.Det.unit]
    · rw [hx j (by omega), Z4 fun k hk => by rw [show Go.Det.unit k j = 0 from if_neg (by omega), Int.mul_zero]]
  have e2 : dT (colA n rs c) bs g x = sm (fun k => x k * dT (colA n rs c) bs g (Go.Det.unit k)) (rs.length + 2) := by
    unfold dT
    conv => lhs; rw [e]
    exact Y7 (by rw [Z6, h.bas.len]; omega) _ _ _
  unfold tt; rw [e2, ← Y2]
  exact Xt fun k _ => by grind
def yx (n : Nat) (rs : List Rw) (c : List Int) (bs : List Nat) (g i : Nat) : Int := tt (colA n rs c) bs g (colA n rs c (n + i))
theorem Ph.dual_sum (h : Ph n rs c W T bs) {g : Nat} (hg : g = rs.length ∨ g = rs.length + 1) {x : Vec} (hx : Vok (rs.length + 2) x) (hx1 : x (rs.length + 1) = 0) :
    tt (colA n rs c) bs g x = sm (fun i => x i * yx n rs c bs g i) rs.length + (if g = rs.length then x rs.length * Go.Det.den (colA n rs c) bs else 0) := by
  rw [h.func (by omega) hx]; simp only [sm]; rw [hx1, Int.zero_mul, Int.add_zero]
  congr 1
  · exact Xt fun k hk => by rw [← Zo (n := n) (c := c) hk]; rfl
  · rw [← colA_z (n := n) (c := c), ← h.z]; rcases hg with rfl | rfl
    · rw [if_pos J, tt_own h.bas.len (by omega)]
    · rw [if_neg (by omega), Yy h.bas.len (by omega) (by omega) (by omega), Int.mul_zero]
theorem colA_w0 {v : Nat} (hv : v < n + rs.length) : colA n rs c v (rs.length + 1) = 0 := by
  by_cases h1 : v < n
  · rw [YW h1, if_neg (by omega), if_neg (by omega)]
  · obtain ⟨i, rfl⟩ : ∃ i, v = n + i := ⟨v - n, by omega⟩; rw [Zo (by omega)]; exact if_neg (by omega)
structure Dual (n : Nat) (rs : List Rw) (c : List Int) (D : Int) (Y : Nat → Int) : Prop where
  den : 0 < D
  nn : ∀ i, i < rs.length → 0 ≤ Y i
  col : ∀ j, j < n → D * c.getD j 0 ≤ sm (fun i => ca rs i j * Y i) rs.length
theorem Ph.dual (h : Ph n rs c W T bs) (hc : ∀ v, v < n + rs.length → 0 ≤ tt (colA n rs c) bs rs.length (colA n rs c v)) :
    Dual n rs c (Go.Det.den (colA n rs c) bs) (yx n rs c bs rs.length) ∧ sm (fun i => cb rs i * yx n rs c bs rs.length i) rs.length = tt (colA n rs c) bs rs.length (rhsQ rs) := by
  refine ⟨⟨den_pos h.bas.ne, fun i hi => hc (n + i) (by omega), fun j hj => ?_⟩, ?_⟩
  · have h1 := h.dual_sum (.inl J) (Ym (n := n) (rs := rs) (c := c) j) (colA_w0 (by omega)); have h2 := hc j (by omega); rw [h1, if_pos J, YW hj, if_neg (by omega), if_pos J] at h2
    have e : sm (fun i => colA n rs c j i * yx n rs c bs rs.length i) rs.length = sm (fun i => ca rs i j * yx n rs c bs rs.length i) rs.length := Xt fun i hi => by rw [YW hj, if_pos hi]; rfl
    rw [e] at h2
    have : -c.getD j 0 * Go.Det.den (colA n rs c) bs = -(Go.Det.den (colA n rs c) bs * c.getD j 0) := by grind
    omega
  · have h1 := h.dual_sum (.inl J) (JZ (rs := rs)) (show rhsQ rs (rs.length + 1) = 0 from if_neg (by omega)); rw [h1, if_pos J, show rhsQ rs rs.length = 0 from if_neg (by omega), Int.zero_mul, Int.add_zero]
    exact Xt fun i hi => by rw [show rhsQ rs i = cb rs i from if_pos hi]
structure Refu (n : Nat) (rs : List Rw) (D : Int) (Y : Nat → Int) : Prop where
  den : 0 < D
  nn : ∀ i, i < rs.length → 0 ≤ Y i
  col : ∀ j, j < n → 0 ≤ sm (fun i => ca rs i j * Y i) rs.length
  neg : sm (fun i => cb rs i * Y i) rs.length < 0
theorem End1.refu {E : Tv} (h : End1 n rs c T E bs) (hv : tt (colA n rs c) bs (rs.length + 1) (rhsQ rs) < 0) : Refu n rs (Go.Det.den (colA n rs c) bs) (yx n rs c bs (rs.length + 1)) := by
  refine ⟨den_pos h.ph.bas.ne, fun i hi => h.cover (n + i) (by omega), fun j hj => ?_, ?_⟩
  · have h1 := h.ph.dual_sum (.inr J) (Ym (n := n) (rs := rs) (c := c) j) (colA_w0 (by omega)); have h2 := h.cover j (by omega); rw [h1, if_neg (by omega), Int.add_zero] at h2; rw [Xt (g := fun i => ca rs i j * yx n rs c bs (rs.length + 1) i) fun i hi => by rw [YW hj, if_pos hi]; rfl] at h2; exact h2
  · have h1 := h.ph.dual_sum (.inr J) (JZ (rs := rs)) (show rhsQ rs (rs.length + 1) = 0 from if_neg (by omega)); rw [if_neg (by omega), Int.add_zero] at h1; rw [h1, Xt (g := fun i => cb rs i * yx n rs c bs (rs.length + 1) i) fun i hi => by rw [show rhsQ rs i = cb rs i from if_pos hi]] at hv; exact hv
structure Ray (n : Nat) (rs : List Rw) (c : List Int) (D : Int) (Z : Nat → Int) : Prop where
  den : 0 < D
  nn : ∀ v, v < n → 0 ≤ Z v
  row : ∀ i, i < rs.length → sm (fun j => ca rs i j * Z j) n ≤ 0
  goal : 0 < sm (fun j => c.getD j 0 * Z j) n
def zx (n : Nat) (rs : List Rw) (c : List Int) (bs : List Nat) (s v : Nat) : Int := (if v = s then Go.Det.den (colA n rs c) bs else 0) - vx n rs c bs (colA n rs c s) v
theorem Ph.ray (h : Ph n rs c (n + rs.length) T bs) {s : Nat} (hs : s < n + rs.length) (hb : ∀ k, k < rs.length → bs.getD k 0 ≠ s) (hg : tt (colA n rs c) bs rs.length (colA n rs c s) < 0) (hl : ∀ k, k < rs.length → tt (colA n rs c) bs k (colA n rs c s) ≤ 0) :
    Ray n rs c (Go.Det.den (colA n rs c) bs) (zx n rs c bs s) := by
  have hd := den_pos h.bas.ne
  have hv0 : ∀ v, vx n rs c bs (colA n rs c s) v ≤ 0 := fun v => by
    have : sm (fun k => if bs.getD k 0 = v then tt (colA n rs c) bs k (colA n rs c s) else 0) rs.length ≤ sm (fun _ => 0) rs.length := sm_le fun k hk => by
      split
      · exact hl k hk
      · exact Int.le_refl _
    rw [Z4 (f := fun _ => 0) fun _ _ => rfl] at this; exact this
  have hnn : ∀ v, 0 ≤ zx n rs c bs s v := fun v => by
    unfold zx; have := hv0 v
    split <;> omega
  have hsum : ∀ i, sm (fun v => colA n rs c v i * zx n rs c bs s v) (n + rs.length) = Go.Det.den (colA n rs c) bs * colA n rs c s i - sm (fun v => colA n rs c v i * vx n rs c bs (colA n rs c s) v) (n + rs.length) := fun i => by
    have e : sm (fun v => colA n rs c v i * zx n rs c bs s v) (n + rs.length) = sm (fun v => (if v = s then colA n rs c v i * Go.Det.den (colA n rs c) bs else 0) + (-1) * (colA n rs c v i * vx n rs c bs (colA n rs c s) v)) (n + rs.length) := Xt fun v _ => by
      unfold zx
      split <;> grind
    rw [e, sm_add, Y2, Jw hs fun v _ hv => if_neg hv, if_pos J, Int.mul_comm]; omega
  refine ⟨hd, fun v _ => hnn v, fun i hi => ?_, ?_⟩
  · have h1 := h.rowsum (Ym (n := n) (rs := rs) (c := c) s) (i := i) (by omega); rw [if_neg (by omega), Int.add_zero] at h1; have h2 := hsum i; rw [h1, Int.sub_self, low_sum i hi] at h2; have := hnn (n + i); omega
  · have h1 := h.rowsum (Ym (n := n) (rs := rs) (c := c) s) (i := rs.length) (Nat.le_refl _); rw [if_pos J] at h1; have h2 := hsum rs.length; rw [goal_sum] at h2; omega
theorem Ph.pt_at (h : Ph n rs c (n + rs.length) T bs) {v : Nat} (hv : v < n) : (ptS T n T.bas.length).getD v 0 = shq (vx n rs c bs (rhsQ rs) v) (Go.Det.den (colA n rs c) bs) := by
  have hV := h.good.view; rw [hV.basl]
  have key : ∀ q, q ≤ rs.length → (ptS T n q).getD v 0 = shq (sm (fun k => if bs.getD k 0 = v then tt (colA n rs c) bs k (rhsQ rs) else 0) q) (Go.Det.den (colA n rs c) bs) := by
    intro q hq
    induction q with
    | zero => simp only [ptS, sm, Y8]; simp [List.getD_eq_getElem?_getD, List.getElem?_replicate, hv]
    | succ q ih =>
      have ih := ih (by omega); have hbq := hV.basv q (by omega); have hl := ptS_len T n q; simp only [ptS, sm]; by_cases h1 : bs.getD q 0 = v
      · rw [if_pos (by rw [hbq, h1]; omega), hbq, h1, Int.toNat_natCast, Z2 (by omega), if_pos J, if_pos J, hV.den]; rw [Z4 fun k hk => if_neg fun e => h.bas.ne (Yh (i := q) (k := k) (by rw [h.bas.len]; omega) (by rw [h.bas.len]; omega) (by omega) (by rw [h1, e]))]; rw [Int.zero_add, hV.rhs q (by have := hV.rm; omega)]
      · rw [if_neg h1, Int.add_zero, ← ih]; split
        · rw [hbq, Int.toNat_natCast, Z2 (by rw [hl]; omega), if_neg h1]
        · rfl
  exact key rs.length (Nat.le_refl _)
theorem Ph.du_at (h : Ph n rs c W T bs) {g i : Nat} (hW : n + rs.length ≤ W) (hg : rs.length ≤ g) (hgT : g < T.rows.length) (hi : i < rs.length) : (duS T n rs.length g T.col.length).getD i 0 = shq (yx n rs c bs g i) (Go.Det.den (colA n rs c) bs) := by
  have hV := h.good.view; have hC := h.good.cov; have hl := duS_len T n rs.length g
  have hgM : g < rs.length + 2 := by have := hV.rM; omega
  have none : ∀ q, q ≤ T.col.length → (∀ j, j < q → T.col.getD j 0 ≠ ((n + i : Nat) : Int)) → (duS T n rs.length g q).getD i 0 = 0 := by
    intro q hq hn
    induction q with
    | zero => simp only [duS]; simp [List.getD_eq_getElem?_getD, List.getElem?_replicate, hi]
    | succ q ih =>
      have ih := ih (by omega) (fun j hj => hn j (by omega)); simp only [duS]; split
      · rw [Z2 (by rw [hl]; omega), if_neg (by have := hn q (by omega); omega)]; exact ih
      · exact ih
  rcases hC.all (n + i) (by omega) with ⟨k, hk, he⟩ | ⟨j, hj, he⟩
  · have hy : yx n rs c bs g i = 0 := by
      unfold yx; rw [← he]; exact Yy h.bas.len hgM (by omega) (by omega)
    rw [hy, Y8]; refine none _ (Nat.le_refl _) (fun j hj e => ?_); have := hC.dis j k hj hk; omega
  · have hy : yx n rs c bs g i = T.at g j := by
      rw [hV.num g hgT j hj, he, Int.toNat_natCast]; rfl
    have key : ∀ q, q ≤ T.col.length → j < q → (duS T n rs.length g q).getD i 0 = shq (T.at g j) T.den := by
      intro q hq hjq
      induction q with
      | zero => omega
      | succ q ih =>
        simp only [duS]; by_cases h1 : j = q
        · subst h1; rw [if_pos (by omega), Z2 (by rw [hl]; omega), if_pos (by omega)]
        · have ih := ih (by omega) (by omega); split
          · rw [Z2 (by rw [hl]; omega), if_neg (by have := hC.inj j q hj (by omega) h1; omega)]; exact ih
          · exact ih
    rw [key _ (Nat.le_refl _) hj, hy, hV.den]
theorem Ph.ra_at (h : Ph n rs c (n + rs.length) T bs) {e s v : Nat} (he : e < T.col.length) (hs : T.col.getD e 0 = (s : Int)) (hv : v < n) : (raS T n e T.bas.length).getD v 0 = shq (zx n rs c bs s v) (Go.Det.den (colA n rs c) bs) := by
  have hV := h.good.view; have hC := h.good.cov; rw [hV.basl]
  have hnb : ∀ k, k < rs.length → bs.getD k 0 ≠ s := fun k hk e2 => by have := hC.dis e k he hk; omega
  have key : ∀ q, q ≤ rs.length → (raS T n e q).getD v 0 = shq ((if v = s then Go.Det.den (colA n rs c) bs else 0) - sm (fun k => if bs.getD k 0 = v then tt (colA n rs c) bs k (colA n rs c s) else 0) q) (Go.Det.den (colA n rs c) bs) := by
    intro q hq
    induction q with
    | zero =>
      simp only [raS, sm, Int.sub_zero]; rw [hs]; by_cases h1 : v = s
      · subst h1; rw [if_pos (by omega), Int.toNat_natCast, Z2 (by simp; omega), if_pos J, if_pos J, hV.den]
      · rw [if_neg h1, Y8]; split
        · rw [Int.toNat_natCast, Z2 (by simp; omega), if_neg (Ne.symm h1)]; simp [List.getD_eq_getElem?_getD, List.getElem?_replicate, hv]
        · simp [List.getD_eq_getElem?_getD, List.getElem?_replicate, hv]
    | succ q ih =>
      have ih := ih (by omega); have hbq := hV.basv q (by omega); have hl := raS_len T n e q; simp only [raS, sm]; by_cases h1 : bs.getD q 0 = v
      · have hvs : v ≠ s := fun e2 => hnb q (by omega) (by rw [h1, e2])
        rw [if_pos (by rw [hbq, h1]; omega), hbq, h1, Int.toNat_natCast, Z2 (by omega), if_pos J, if_pos J, if_neg hvs, hV.den]; rw [Z4 fun k hk => if_neg fun e2 => h.bas.ne (Yh (i := q) (k := k) (by rw [h.bas.len]; omega) (by rw [h.bas.len]; omega) (by omega) (by rw [h1, e2]))]; rw [hV.num q (by have := hV.rm; omega) e he, hs, Int.toNat_natCast]
        congr 1; omega
      · rw [if_neg h1, Int.add_zero, ← ih]; split
        · rw [hbq, Int.toNat_natCast, Z2 (by rw [hl]; omega), if_neg h1]
        · rfl
  exact key rs.length (Nat.le_refl _)
end
def ptl (n : Nat) (X : Nat → Int) (D : Int) : List Fr := (List.range n).map fun v => ofQ (shq (X v) D)
theorem list_range {α : Type} {l : List α} {n : Nat} {f : Nat → α} {z : α} (hl : l.length = n) (h : ∀ v, v < n → l.getD v z = f v) : l = (List.range n).map f := by
  subst hl; rw [← YY l z]; rw [List.length_map, List.length_range]
  exact List.map_congr_left fun v hv => h v (by simpa using hv)
def Kt (m : Nat) : Nat := (m + 2) * (4503599627370496 * (fact (m + 2) * 1048576 ^ (m + 2)))
inductive Sol (n : Nat) (rs : List Rw) (c : List Int) : Oc → Prop
  | opt (D : Int) (X Y : Nat → Int) (val : Int) (hX : Feas n rs D X) (hv : sm (fun j => c.getD j 0 * X j) n = val) (hY : Dual n rs c D Y) (hw : sm (fun i => cb rs i * Y i) rs.length = val)
      (b1 : D.natAbs ≤ Kt rs.length) (b2 : ∀ v, v < n → (X v).natAbs ≤ Kt rs.length) (b3 : ∀ i, i < rs.length → (Y i).natAbs ≤ Kt rs.length) (b4 : val.natAbs ≤ Kt rs.length) : Sol n rs c ⟨1, ofQ (shq val D), ptl n X D, [], ptl rs.length Y D⟩
  | unb (D : Int) (X Z : Nat → Int) (hX : Feas n rs D X) (hZ : Ray n rs c D Z)
      (b1 : D.natAbs ≤ Kt rs.length) (b2 : ∀ v, v < n → (X v).natAbs ≤ Kt rs.length) (b3 : ∀ v, v < n → (Z v).natAbs ≤ Kt rs.length) : Sol n rs c ⟨2, frz0, ptl n X D, ptl n Z D, []⟩
  | emp (D : Int) (Y : Nat → Int) (hY : Refu n rs D Y) (b1 : D.natAbs ≤ Kt rs.length) (b3 : ∀ i, i < rs.length → (Y i).natAbs ≤ Kt rs.length) : Sol n rs c ⟨3, frz0, [], [], ptl rs.length Y D⟩
section
variable {n : Nat} {rs : List Rw} {c : List Int} {W : Nat} {T : Tv} {bs : List Nat}
theorem dT_Kt (h : LpOk n rs c) {i : Nat} {x : Vec} (hl : bs.length = rs.length + 2) (hi : i < rs.length + 2) (hx2 : x = rhsQ rs ∨ ∃ v, x = colA n rs c v) : (dT (colA n rs c) bs i x).natAbs ≤ Kt rs.length := by
  have dtb : ∀ l : List Vec, l.length = rs.length + 2 → (∀ x ∈ l, ∀ i, (x i).natAbs ≤ 1048576) → (dt l).natAbs ≤ fact (rs.length + 2) * 1048576 ^ (rs.length + 2) := fun l hl hA => by
    have h1 := dt_bd l hA
    rwa [hl] at h1
  unfold Kt; rcases hx2 with rfl | ⟨v, rfl⟩
  · have e : rhsQ rs = comb (rhsQ rs) Go.Det.unit (rs.length + 2) := by
      funext j
      unfold comb; by_cases hj : j < rs.length + 2
      · rw [Jw hj fun k _ hk => by simp [Go.Det.unit, Ne.symm hk]]; simp [Go.Det.unit]
      · rw [JZ j (by omega), Z4 fun k hk => by rw [show Go.Det.unit k j = 0 from if_neg (by omega), Int.mul_zero]]
    have e2 : dT (colA n rs c) bs i (rhsQ rs) = sm (fun k => rhsQ rs k * dt ((cols (colA n rs c) bs).set i (Go.Det.unit k))) (rs.length + 2) := by
      unfold dT
      conv => lhs; rw [e]
      exact Y7 (by rw [Z6]; omega) _ _ _
    rw [e2]
    refine sm_natAbs fun k _ => ?_
    rw [Int.natAbs_mul]
    refine Nat.mul_le_mul ?_ (dtb _ (by rw [List.length_set, Z6]; exact hl) fun x hx i => ?_)
    · unfold rhsQ; split
      · rename_i h2; exact h.bb _ (rs_mem h2)
      · decide
    · rcases mem_set_or hx with h3 | h3
      · exact cols_bd h h3 i
      · rw [h3]; unfold Go.Det.unit; split <;> decide
  · refine Nat.le_trans (dtb _ (by rw [List.length_set, Z6]; exact hl) fun x hx i => ?_) ?_
    · rcases mem_set_or hx with h3 | h3
      · exact cols_bd h h3 i
      · rw [h3]; exact colA_bd h v i
    · exact Nat.le_trans (Nat.le_mul_of_pos_left _ (by decide)) (Nat.le_mul_of_pos_left _ (by omega))
theorem sgn_le1 (d : Int) : d.sign.natAbs ≤ 1 := by rw [Int.natAbs_sign]; split <;> omega
theorem tt_Kt (h : LpOk n rs c) {i : Nat} {x : Vec} (hl : bs.length = rs.length + 2) (hi : i < rs.length + 2) (hx2 : x = rhsQ rs ∨ ∃ v, x = colA n rs c v) : (tt (colA n rs c) bs i x).natAbs ≤ Kt rs.length := by
  unfold tt; rw [Int.natAbs_mul]; have h1 := Nat.mul_le_mul (sgn_le1 (dD (colA n rs c) bs)) (dT_Kt h hl hi hx2); omega
theorem den_Kt (h : LpOk n rs c) (hP : Ph n rs c W T bs) : (Go.Det.den (colA n rs c) bs).natAbs ≤ Kt rs.length := by
  have := tt_Kt h (i := rs.length) hP.bas.len (by omega) (.inr ⟨bs.getD rs.length 0, rfl⟩)
  rwa [tt_own hP.bas.len (by omega)] at this
theorem vx_Kt (h : LpOk n rs c) (hP : Ph n rs c W T bs) {x : Vec} (hx2 : x = rhsQ rs ∨ ∃ v, x = colA n rs c v) (v : Nat) : (vx n rs c bs x v).natAbs ≤ Kt rs.length := by
  by_cases hb : ∃ k, k < rs.length ∧ bs.getD k 0 = v
  · obtain ⟨k, hk, rfl⟩ := hb; rw [vx_row hP hk]; exact tt_Kt h hP.bas.len (by omega) hx2
  · rw [vx_out fun k hk e => hb ⟨k, hk, e⟩]; exact Nat.zero_le _
theorem lp_sol (hL : LpOk n rs c) : ∃ T E F s, SolRun n rs c T E F s ∧ Sol n rs c (ocOf n rs.length T E F s) := by
  have hS := lp_sys hL
  let T : Tv := ⟨.slice none 0 0, .slice none 0 0, .slice none 0 0, List.replicate (rs.length + 1) default, (rs.map fun r => lnOf n r.cs r.b) ++ [lnOf n (c.map fun x => -x) 0], rng n rs.length, rng 0 n, 1⟩
  have hB : Beg n rs c T := ⟨rfl, rfl, rfl, rfl, by show (List.replicate _ _).length = _; simp [T]⟩
  have hbl : T.bas.length = rs.length := by rw [hB.bas, XX]
  have hcl : T.col.length = n := by rw [hB.col, XX]
  obtain ⟨E, hst, hE⟩ := hB.start hL; generalize T = T at *
  have second : ∀ P bs, Ph n rs c (n + rs.length) P bs → P.rows.length = rs.length + 1 → P.col.length = n → stOut T E ((n + rs.length : Nat) : Int) = P → stRes T E = true →
      ∃ F s, SolRun n rs c T E F s ∧ Sol n rs c (ocOf n rs.length T E F s) := by
    intro P bs hP hPr hPc hout hres; obtain ⟨k, F, s, bf, hR, hG, hEn, hr, hj⟩ := hP.good.ends hS (g := rs.length) (Nat.le_refl _) (by rw [hPr]; omega) (hP.small (Nat.le_refl _)); have hF : Ph n rs c (n + rs.length) F bf := ⟨hG, by rw [hj _ (Nat.le_refl _)]; exact hP.z, by rw [hj _ (by omega)]; exact hP.w⟩; have hV := hG.view; have hlen := hR.lens; have hcol : ∀ i, 0 ≤ F.col.getD i 0 := hV.colv
    have hbas : ∀ i, 0 ≤ F.bas.getD i 0 := fun i => by
      by_cases h1 : i < rs.length
      · rw [hV.basv i h1]; omega
      · rw [getD_ge (by rw [hV.basl]; omega)]; exact Int.le_refl _
    have hpt : (ptS F n F.bas.length).map ofQ = ptl n (vx n rs c bf (rhsQ rs)) (Go.Det.den (colA n rs c) bf) := by
      rw [list_range (ptS_len F n _) (fun v hv => hF.pt_at hv), List.map_map]; rfl
    have hpo := hF.point; have hdK := den_Kt hL hF
    have hvK := fun v => vx_Kt hL hF (.inl J) v
    rcases hEn with ⟨hs, h1⟩ | ⟨e, hs, he, h1, h2⟩
    · refine ⟨F, s, ⟨hB, hst, fun h => (by rw [hres] at h; cases h), fun _ => ⟨k, by rw [hout]; exact hR⟩, fun _ => ⟨by rw [hr, hPr], hcol, hbas, by rw [hs]; omega, by rw [hs]; decide⟩⟩, ?_⟩; have hdu := hF.dual h1
      have e1 : ocOf n rs.length T E F s = ⟨1, ofQ (shq (F.at rs.length F.col.length) F.den), (ptS F n F.bas.length).map ofQ, [], (duS F n rs.length rs.length F.col.length).map ofQ⟩ := by
        unfold ocOf; rw [if_neg (by rw [hres]; decide), if_neg (by rw [hs]; decide)]
      have hdl : (duS F n rs.length rs.length F.col.length).map ofQ = ptl rs.length (yx n rs c bf rs.length) (Go.Det.den (colA n rs c) bf) := by
        rw [list_range (duS_len F n rs.length rs.length _) (fun i hi => hF.du_at (Nat.le_refl _) (Nat.le_refl _) (by rw [hr, hPr]; omega) hi), List.map_map]; rfl
      rw [e1, hpt, hdl, hV.rhs rs.length (by rw [hr, hPr]; omega), hV.den]; exact .opt _ _ _ _ hpo.1 hpo.2 hdu.1 hdu.2 hdK (fun v _ => hvK v) (fun i _ => tt_Kt hL hF.bas.len (by omega) (.inr ⟨_, rfl⟩)) (tt_Kt hL hF.bas.len (by omega) (.inl J))
    · refine ⟨F, s, ⟨hB, hst, fun h => (by rw [hres] at h; cases h), fun _ => ⟨k, by rw [hout]; exact hR⟩, fun _ => ⟨by rw [hr, hPr], hcol, hbas, by rw [hs]; omega, by rw [hs]; omega⟩⟩, ?_⟩; have hcW := hG.cov.col e he; have hcn := hcol e; obtain ⟨v0, hv0⟩ : ∃ v0 : Nat, F.col.getD e 0 = v0 := ⟨(F.col.getD e 0).toNat, by omega⟩; rw [hv0, Int.toNat_natCast] at h1 h2
      have hnb : ∀ k, k < rs.length → bf.getD k 0 ≠ v0 := fun k hk e2 => by have := hG.cov.dis e k he hk; omega
      have hra := hF.ray (s := v0) (by omega) hnb h1 h2
      have e1 : ocOf n rs.length T E F s = ⟨2, frz0, (ptS F n F.bas.length).map ofQ, (raS F n e F.bas.length).map ofQ, []⟩ := by
        unfold ocOf; rw [if_neg (by rw [hres]; decide), if_pos (by omega), hs, Int.toNat_natCast]
      have hrl : (raS F n e F.bas.length).map ofQ = ptl n (zx n rs c bf v0) (Go.Det.den (colA n rs c) bf) := by
        rw [list_range (raS_len F n e _) (fun v hv => hF.ra_at he hv0 hv), List.map_map]; rfl
      rw [e1, hpt, hrl]; refine .unb _ _ _ hpo.1 hra hdK (fun v _ => hvK v) (fun v _ => ?_); have hb := vx_Kt hL hF (x := colA n rs c v0) (.inr ⟨_, rfl⟩) v; unfold zx; by_cases h3 : v = v0
      · rw [if_pos h3, h3, vx_out hnb, Int.sub_zero]; exact hdK
      · rw [if_neg h3]; omega
  cases hE with
  | keep hw h hc =>
    have hout : stOut T E ((n + rs.length : Nat) : Int) = T := by unfold stOut; rw [hbl, if_pos hw]
    have hres : stRes T E = true := by unfold stRes; rw [hbl, decide_eq_true hw]; rfl
    obtain ⟨F, s, h1, h2⟩ := second T _ h hB.len hc hout hres; exact ⟨T, E, F, s, h1, h2⟩
  | none bs hw h hv ha =>
    have hres : stRes T E = false := by unfold stRes; rw [hbl, hcl, decide_eq_false (by omega), decide_eq_true ha]; rfl
    have hP := h.ph; have hV := hP.good.view
    have e1 : ocOf n rs.length T E E 0 = ⟨3, frz0, [], [], (duS E n rs.length (rs.length + 1) E.col.length).map ofQ⟩ := by
      unfold ocOf; rw [if_pos hres]
    have hdl : (duS E n rs.length (rs.length + 1) E.col.length).map ofQ = ptl rs.length (yx n rs c bs (rs.length + 1)) (Go.Det.den (colA n rs c) bs) := by
      rw [list_range (duS_len E n rs.length (rs.length + 1) _) (fun i hi => hP.du_at (by omega) (by omega) (by rw [h.rows]; omega) hi), List.map_map]; rfl
    refine ⟨T, E, E, 0, ⟨hB, hst, fun _ => ⟨hV.gd hS hP.good.hl hP.good.few hP.good.thin, h.rows, hV.colv⟩, fun h1 => (by rw [hres] at h1; cases h1), fun h1 => (by rw [hres] at h1; cases h1)⟩, ?_⟩; rw [e1, hdl]; exact .emp _ _ (h.refu hv) (den_Kt hL hP) (fun i _ => tt_Kt hL hP.bas.len (by omega) (.inr ⟨_, rfl⟩))
  | some bs hw ha h hc hr =>
    have hout : stOut T E ((n + rs.length : Nat) : Int) = stE3 E rs.length n ((n + rs.length : Nat) : Int) := by unfold stOut; rw [hbl, hcl, if_neg (by omega), if_neg ha]
    have hres : stRes T E = true := by unfold stRes; rw [hbl, hcl, decide_eq_false ha]; simp
    obtain ⟨F, s, h1, h2⟩ := second _ _ h hr hc hout hres; exact ⟨T, E, F, s, h1, h2⟩
theorem sm_mul_r (f : Nat → Int) (c : Int) (n : Nat) : sm (fun k => f k * c) n = sm f n * c := by
  rw [Xt (g := fun k => c * f k) fun k _ => Int.mul_comm _ _, Y2, Int.mul_comm]
theorem comb_swap (rs : List Rw) (X Y : Nat → Int) (n : Nat) : sm (fun j => sm (fun i => ca rs i j * Y i) rs.length * X j) n = sm (fun i => Y i * sm (fun j => ca rs i j * X j) n) rs.length := by
  rw [Xt (g := fun j => sm (fun i => ca rs i j * Y i * X j) rs.length) fun j _ => (sm_mul_r _ _ _).symm]; rw [sm_swap (fun i j => ca rs i j * Y i * X j) rs.length n]
  exact Xt fun i _ => by
    rw [← Y2]
    exact Xt fun j _ => by grind
theorem weak {D D' : Int} {X Y : Nat → Int} (hX : Feas n rs D X) (hY : Dual n rs c D' Y) : D' * sm (fun j => c.getD j 0 * X j) n ≤ D * sm (fun i => cb rs i * Y i) rs.length := by
  have h1 : D' * sm (fun j => c.getD j 0 * X j) n ≤ sm (fun j => sm (fun i => ca rs i j * Y i) rs.length * X j) n := by
    rw [← Y2]
    refine sm_le fun j hj => ?_
    have := Int.mul_le_mul_of_nonneg_right (hY.col j hj) (hX.nn j hj); rw [← Int.mul_assoc]; exact this
  rw [comb_swap] at h1
  refine Int.le_trans h1 ?_
  rw [← Y2]
  refine sm_le fun i hi => ?_
  have := Int.mul_le_mul_of_nonneg_left (hX.row i hi) (hY.nn i hi)
  have e : Y i * (D * cb rs i) = D * (cb rs i * Y i) := by grind
  rw [← e]; exact this
theorem no_refu {D D' : Int} {X Y : Nat → Int} (hX : Feas n rs D X) (hY : Refu n rs D' Y) : False := by
  have h1 : 0 ≤ sm (fun j => sm (fun i => ca rs i j * Y i) rs.length * X j) n := sm_nonneg fun j hj => Int.mul_nonneg (hY.col j hj) (hX.nn j hj)
  rw [comb_swap] at h1
  have h2 : sm (fun i => Y i * sm (fun j => ca rs i j * X j) n) rs.length ≤ D * sm (fun i => cb rs i * Y i) rs.length := by
    rw [← Y2]
    refine sm_le fun i hi => ?_
    have := Int.mul_le_mul_of_nonneg_left (hX.row i hi) (hY.nn i hi)
    have e : Y i * (D * cb rs i) = D * (cb rs i * Y i) := by grind
    rw [← e]; exact this
  have h3 := Int.mul_neg_of_pos_of_neg hX.den hY.neg; omega
theorem no_ray {D D' : Int} {Z Y : Nat → Int} (hZ : Ray n rs c D Z) (hY : Dual n rs c D' Y) : False := by
  have h1 : D' * sm (fun j => c.getD j 0 * Z j) n ≤ sm (fun j => sm (fun i => ca rs i j * Y i) rs.length * Z j) n := by
    rw [← Y2]
    refine sm_le fun j hj => ?_
    have := Int.mul_le_mul_of_nonneg_right (hY.col j hj) (hZ.nn j hj); rw [← Int.mul_assoc]; exact this
  rw [comb_swap] at h1
  have h2 : sm (fun i => Y i * sm (fun j => ca rs i j * Z j) n) rs.length ≤ sm (fun _ => 0) rs.length := sm_le fun i hi => Int.mul_nonpos_of_nonneg_of_nonpos (hY.nn i hi) (hZ.row i hi)
  rw [Z4 (f := fun _ => 0) fun _ _ => rfl] at h2; have h3 := Int.mul_pos hY.den hZ.goal; omega
end
structure F6 (f : Fr) : Prop where
  num : f.num < 1073741824 ^ 6
  den : f.den < 1073741824 ^ 6
  pos : 0 < f.den
  neg : f.neg = true → f.num ≠ 0
theorem F6.vf {f : Fr} (h : F6 f) : VF f := ⟨Nat.le_trans (Qg h.num) (by decide), Nat.le_trans (Qg h.den) (by decide), h.pos, h.neg⟩
structure F9 (f : Fr) : Prop where
  num : f.num < 1073741824 ^ 9
  den : f.den < 1073741824 ^ 9
  pos : 0 < f.den
  neg : f.neg = true → f.num ≠ 0
theorem F6.f9 {f : Fr} (h : F6 f) : F9 f := ⟨Nat.lt_trans h.num (by decide), Nat.lt_trans h.den (by decide), h.pos, h.neg⟩
theorem F9.vf {f : Fr} (h : F9 f) : VF f := ⟨Nat.le_trans (Qg h.num) (by decide), Nat.le_trans (Qg h.den) (by decide), h.pos, h.neg⟩
theorem mk_le (N : Int) (P : Nat) (hP : 0 < P) : (ofQ (mkRat N P)).num ≤ N.natAbs ∧ (ofQ (mkRat N P)).den ≤ P := by
  have h := redF_q (decide (N < 0)) N.natAbs P hP; rw [sg_natAbs] at h; rw [← h]; exact ⟨Nat.div_le_self _ _, Nat.div_le_self _ _⟩
theorem prod_mk (c : Int) (f : Fr) (h : 0 < f.den) : (c : Rat) * qv f = mkRat (c * sg f.neg f.num) f.den := by
  have e : (c : Rat) = mkRat c 1 := (Rat.mkRat_one c).symm; unfold qv; rw [e, Rat.mkRat_mul_mkRat, Nat.one_mul]
theorem sg_abs (n : Bool) (a : Nat) : (sg n a).natAbs = a := natAbs_sg n a
theorem psum_mk (c : List Int) (xs : List Fr) (hc : ∀ i, (c.getD i 0).natAbs ≤ 9223372036854775808) : ∀ k, (∀ j, j < k → F9 (xs.getD j fr0)) → ∃ (N : Int) (P : Nat), 0 < P ∧ psum c xs k = mkRat N P ∧ P ≤ 1073741824 ^ (9 * k) ∧ N.natAbs ≤ k * (9223372036854775808 * 1073741824 ^ (9 * k))
  | 0, _ => ⟨0, 1, by decide, by simp [psum], by decide, by decide⟩
  | k + 1, hx => by
    obtain ⟨N, P, hP, he, hPb, hNb⟩ := psum_mk c xs hc k (fun j hj => hx j (by omega))
    have hf := hx k (by omega)
    generalize hff : xs.getD k fr0 = f at hf
    have hck := hc k
    have hpr := prod_mk (c.getD k 0) f hf.pos
    have hsg := sg_abs f.neg f.num
    have hn := hf.num
    have hd := hf.den
    have hd0 := hf.pos
    refine ⟨N * f.den + c.getD k 0 * sg f.neg f.num * P, P * f.den, Nat.mul_pos hP hf.pos, ?_, ?_, ?_⟩
    · simp only [psum]
      rw [he, hff, hpr, Rat.mkRat_add_mkRat _ _ (by omega) (by omega)]
    · rw [show 9 * (k + 1) = 9 * k + 9 by omega, Nat.pow_add]
      exact Nat.mul_le_mul hPb (by omega)
    · have e : 1073741824 ^ (9 * (k + 1)) = 1073741824 ^ (9 * k) * 1073741824 ^ 9 := by rw [show 9 * (k + 1) = 9 * k + 9 by omega, Nat.pow_add]
      rw [e]
      generalize 1073741824 ^ (9 * k) = Q at *
      have h1 : (N * f.den).natAbs ≤ k * (9223372036854775808 * Q) * 1073741824 ^ 9 := by
        rw [Int.natAbs_mul]; exact Nat.mul_le_mul hNb (by omega)
      have h2 : (c.getD k 0 * sg f.neg f.num * P).natAbs ≤ 9223372036854775808 * 1073741824 ^ 9 * Q := by
        rw [Int.natAbs_mul, Int.natAbs_mul, hsg]; exact Nat.mul_le_mul (Nat.mul_le_mul hck (by omega)) hPb
      have h3 : (N * f.den + c.getD k 0 * sg f.neg f.num * P).natAbs ≤ (N * f.den).natAbs + (c.getD k 0 * sg f.neg f.num * P).natAbs := Int.natAbs_add_le _ _
      have e2 : (k + 1) * (9223372036854775808 * (Q * 1073741824 ^ 9)) = k * (9223372036854775808 * Q) * 1073741824 ^ 9 + 9223372036854775808 * 1073741824 ^ 9 * Q := by
        generalize (1073741824 : Nat) ^ 9 = R
        grind
      omega
theorem psum_sz (c : List Int) (xs : List Fr) (hc : ∀ i, (c.getD i 0).natAbs ≤ 9223372036854775808) {k : Nat} (hk : k ≤ 6) (hx : ∀ j, j < k → F9 (xs.getD j fr0)) :
    (limbs (ofQ (psum c xs k)).num).length ≤ 57 ∧ (limbs (ofQ (psum c xs k)).den).length ≤ 55 ∧ (k ≤ 5 → (limbs (ofQ (psum c xs k)).num).length ≤ 48 ∧ (limbs (ofQ (psum c xs k)).den).length ≤ 46) := by
  obtain ⟨N, P, hP, he, hPb, hNb⟩ := psum_mk c xs hc k hx; have hm := mk_le N P hP; rw [← he] at hm
  have p6 : ∀ a, k ≤ a → 1073741824 ^ (9 * k) ≤ 1073741824 ^ (9 * a) := fun a ha => Nat.pow_le_pow_right (by decide) (by omega)
  have nb : ∀ a, k ≤ a → N.natAbs ≤ a * (9223372036854775808 * 1073741824 ^ (9 * a)) := fun a ha => Nat.le_trans hNb (Nat.mul_le_mul ha (Nat.mul_le_mul_left _ (p6 a ha)))
  refine ⟨Qg (Nat.lt_of_le_of_lt (Nat.le_trans hm.1 (nb 6 hk)) (by decide)), Qg (Nat.lt_of_le_of_lt (Nat.le_trans hm.2 (Nat.le_trans hPb (p6 6 hk))) (by decide)), fun h5 => ⟨Qg (Nat.lt_of_le_of_lt (Nat.le_trans hm.1 (nb 5 h5)) (by decide)), Qg (Nat.lt_of_le_of_lt (Nat.le_trans hm.2 (Nat.le_trans hPb (p6 5 h5))) (by decide))⟩⟩
theorem vfit9 (c : List Int) (xs : List Fr) (hcl : c.length ≤ 1000) (hc : ∀ i, -9223372036854775808 ≤ c.getD i 0 ∧ c.getD i 0 ≤ 9223372036854775807) (hxl : xs.length ≤ 6) (hx : ∀ f ∈ xs, F9 f) : VFit c xs ∧ (limbs (ofQ (vsum c xs)).num).length ≤ 57 ∧ (limbs (ofQ (vsum c xs)).den).length ≤ 55 := by
  have hc' : ∀ i, (c.getD i 0).natAbs ≤ 9223372036854775808 := fun i => by have := hc i; omega
  have hx' : ∀ k, k < min c.length xs.length → F9 (xs.getD k fr0) := fun k hk => hx _ (X1 (by omega))
  have hp : ∀ k, k < min c.length xs.length → (limbs (ofQ ((c.getD k 0 : Rat) * qv (xs.getD k fr0))).num).length ≤ 12 ∧ (limbs (ofQ ((c.getD k 0 : Rat) * qv (xs.getD k fr0))).den).length ≤ 9 := fun k hk => by
    have hf := hx' k hk; have hm := mk_le (c.getD k 0 * sg (xs.getD k fr0).neg (xs.getD k fr0).num) (xs.getD k fr0).den hf.pos; rw [← prod_mk _ _ hf.pos] at hm
    have h1 : (c.getD k 0 * sg (xs.getD k fr0).neg (xs.getD k fr0).num).natAbs ≤ 9223372036854775808 * 1073741824 ^ 9 := by
      rw [Int.natAbs_mul, sg_abs]; exact Nat.mul_le_mul (hc' k) (Nat.le_of_lt hf.num)
    exact ⟨Qg (Nat.lt_of_le_of_lt (Nat.le_trans hm.1 h1) (by decide)), Qg (Nat.lt_of_le_of_lt hm.2 hf.den)⟩
  have hs : ∀ k, k < min c.length xs.length → (limbs (ofQ (psum c xs k)).num).length ≤ 48 ∧ (limbs (ofQ (psum c xs k)).den).length ≤ 46 := fun k hk => (psum_sz c xs hc' (by omega) (fun j hj => hx' j (by omega))).2.2 (by omega)
  have hv := psum_sz c xs hc' (k := min c.length xs.length) (by omega) hx'; refine ⟨⟨hcl, by omega, hc, fun k hk => (hx' k hk).pos, fun k hk => ?_, fun k hk => ?_, fun k hk => ?_, fun k hk => ?_, fun k hk => ?_⟩, hv.1, hv.2.1⟩
  · have h1 : (limbs (ofQ (c.getD k 0 : Rat)).num).length ≤ 3 := Qg (Nat.lt_of_le_of_lt (show (ofQ (c.getD k 0 : Rat)).num ≤ 9223372036854775808 from hc' k) (by decide)); have h2 := Qg (hx' k hk).num; omega
  · have h2 := Qg (hx' k hk).den; omega
  · have h1 := hp k hk; have h2 := hs k hk; omega
  · have h1 := hp k hk; have h2 := hs k hk; omega
  · have h1 := hp k hk; have h2 := hs k hk; omega
theorem sfit9 (n : Int) (rs : List Rw) (xs : List Fr) (hv : validR n rs = true) (hxl : xs.length ≤ 6) (hx : ∀ f ∈ xs, F9 f) : SFit rs xs := by
  obtain ⟨v1, v2, v3, v4⟩ := Z3 hv
  have key : ∀ r ∈ rs, VFit r.cs xs ∧ (limbs (ofQ (vsum r.cs xs)).num).length ≤ 57 ∧ (limbs (ofQ (vsum r.cs xs)).den).length ≤ 55 := fun r hr => by
    obtain ⟨h1, h2, h3⟩ := v4 r hr; refine vfit9 r.cs xs (by omega) (fun i => ?_) hxl hx; rcases Nat.lt_or_ge i r.cs.length with h4 | h4
    · have := h2 _ (X1 (z := 0) h4); omega
    · rw [getD_ge h4]; decide
  exact ⟨fun r hr => (key r hr).1, fun r hr => by have := (key r hr).2.1; omega, fun r hr => by have := (key r hr).2.2; omega⟩
theorem sfit6 (n : Int) (rs : List Rw) (xs : List Fr) (hv : validR n rs = true) (hxl : xs.length ≤ 6) (hx : ∀ f ∈ xs, F6 f) : SFit rs xs := sfit9 n rs xs hv hxl fun f hf => (hx f hf).f9
theorem sol_opt {n : Nat} {rs : List Rw} {c : List Int} {O : Oc} (h : Sol n rs c O) {D1 D2 : Int} {X Y : Nat → Int} (hX : Feas n rs D1 X) (hY : Dual n rs c D2 Y) {v : Int} (e1 : sm (fun j => c.getD j 0 * X j) n = D1 * v) (e2 : sm (fun i => cb rs i * Y i) rs.length = D2 * v) : O.kind = 1 ∧ O.value = ofQ (v : Rat) := by
  cases h with
  | opt D X' Y' val hX' hv hY' hw b1 b2 b3 b4 =>
    refine ⟨rfl, ?_⟩; have w1 := weak hX' hY; have w2 := weak hX hY'; rw [hv, e2] at w1; rw [e1, hw] at w2; have hD := hX'.den; have d1 := hX.den; have d2 := hY.den
    have h1 : val ≤ D * v := by
      have : D2 * val ≤ D2 * (D * v) := by rw [show D2 * (D * v) = D * (D2 * v) by grind]; exact w1
      exact Int.le_of_mul_le_mul_left this d2
    have h2 : D * v ≤ val := by
      have : D1 * (D * v) ≤ D1 * val := by rw [show D1 * (D * v) = D * (D1 * v) by grind]; exact w2
      exact Int.le_of_mul_le_mul_left this d1
    have h3 : val = D * v := by omega
    show ofQ (shq val D) = _; rw [h3]; unfold shq
    congr 1
    obtain ⟨d, rfl⟩ : ∃ d : Nat, D = d := ⟨D.toNat, by omega⟩; rw [Int.natAbs_natCast, ← Rat.divInt_ofNat, show ((d : Int) * v) = (d : Int) * v from rfl]; have := Rat.divInt_mul_left (n := v) (d := 1) (a := (d : Int)) (by omega); rw [Int.mul_one] at this; rw [this, divInt_one]
  | unb D X' Z hX' hZ => exact (no_ray hZ hY).elim
  | emp D Y' hY' => exact (no_refu hX hY').elim
theorem sol_emp {n : Nat} {rs : List Rw} {c : List Int} {O : Oc} (h : Sol n rs c O) {D : Int} {Y : Nat → Int} (hY : Refu n rs D Y) : O.kind = 3 := by
  cases h with
  | opt D X' Y' val hX' => exact (no_refu hX' hY).elim
  | unb D X' Z hX' hZ => exact (no_refu hX' hY).elim
  | emp D Y' hY' => rfl
theorem lp_of {n : Int} {rs : List Rw} {c : List Int} (hv : validR n rs = true) (hc : okCoeffs n c = true) : ∃ N : Nat, n = N ∧ LpOk N rs c := by
  obtain ⟨v1, v2, v3, v4⟩ := Z3 hv; obtain ⟨N, rfl⟩ : ∃ N : Nat, n = N := ⟨n.toNat, by omega⟩
  have bdd : ∀ xs : List Int, (∀ y ∈ xs, y.natAbs ≤ 1048576) → ∀ i, (xs.getD i 0).natAbs ≤ 1048576 := fun xs hx i => by
    rcases Nat.lt_or_ge i xs.length with h | h
    · exact hx _ (X1 h)
    · rw [getD_ge h]; decide
  unfold okCoeffs at hc; rw [Bool.and_eq_true] at hc; have h1 := of_decide_eq_true hc.1
  have h2 : ∀ y ∈ c, y.natAbs ≤ 1048576 := fun y hy => by
    have h3 : c.any badC = false := by simpa using hc.2
    have h4 := List.any_eq_false.1 h3 y hy; unfold badC at h4; simp only [Bool.or_eq_true, decide_eq_true_eq, not_or] at h4; omega
  exact ⟨N, rfl, ⟨by omega, v3, by omega, bdd c h2, fun r hr => by have := (v4 r hr).1; omega, fun r hr => bdd _ (v4 r hr).2.1, fun r hr => (v4 r hr).2.2⟩⟩
theorem shq_mul (a k D : Int) : shq (k * a) D = shq a D * (k : Rat) := by
  unfold shq; rw [← Rat.mkRat_one k, Rat.mkRat_mul_mkRat, Nat.mul_one, Int.mul_comm]
theorem mkR_le {a b : Int} {d e : Nat} (hd : 0 < d) (he : 0 < e) (h : a * e ≤ b * d) : mkRat a d ≤ mkRat b e := by
  cases ep : mkRat a d with
  | mk' pn pd z1 c1 =>
    cases eq : mkRat b e with
    | mk' qn qd z2 c2 =>
      obtain ⟨m, hm, e1, e2⟩ := Rat.mkRat_num_den (by omega) ep; obtain ⟨k, hk, e3, e4⟩ := Rat.mkRat_num_den (by omega) eq; rw [Rat.le_iff]; dsimp only; subst e1 e2 e3 e4; rw [Int.natCast_mul, Int.natCast_mul] at h
      have hmk : (0 : Int) < (m : Int) * k := by exact_mod_cast Nat.mul_pos (Nat.pos_of_ne_zero hm) (Nat.pos_of_ne_zero hk)
      refine Int.le_of_mul_le_mul_left ?_ hmk
      rw [show (m : Int) * k * (pn * qd) = pn * m * (qd * k) by grind, show (m : Int) * k * (qn * pd) = qn * k * (pd * m) by grind]; exact h
theorem shq_add (a b D : Int) : shq (a + b) D = shq a D + shq b D := by
  unfold shq; rcases Nat.eq_zero_or_pos D.natAbs with h | h
  · rw [h, Rat.mkRat_zero, Rat.mkRat_zero, Rat.mkRat_zero, Rat.add_zero]
  · rw [Rat.mkRat_add_mkRat _ _ (by omega) (by omega), ← Int.add_mul, Rat.mkRat_mul_right (by omega)]
theorem ptl_at {n : Nat} {X : Nat → Int} {D : Int} {k : Nat} (h : k < n) : (ptl n X D).getD k fr0 = ofQ (shq (X k) D) := by
  unfold ptl; simp [List.getD_eq_getElem?_getD, List.getElem?_map, h]
theorem ptl_len (n : Nat) (X : Nat → Int) (D : Int) : (ptl n X D).length = n := by simp [ptl]
theorem psum_ptl (c : List Int) (n : Nat) (X : Nat → Int) (D : Int) : ∀ k, k ≤ n → psum c (ptl n X D) k = shq (sm (fun j => c.getD j 0 * X j) k) D
  | 0, _ => by simp [psum, sm, Y8]
  | k + 1, h => by
    simp only [psum, sm]
    rw [psum_ptl c n X D k (by omega), ptl_at (by omega), Yw, shq_add, shq_mul, Rat.mul_comm]
theorem sm_tail (f : Nat → Int) {m n : Nat} (h : m ≤ n) (hz : ∀ k, m ≤ k → f k = 0) : sm f n = sm f m := by
  obtain ⟨k, rfl⟩ := Nat.le.dest h; rw [sm_app, Z4 (f := fun j => f (m + j)) fun j _ => hz _ (by omega), Int.add_zero]
theorem vsum_ptl (c : List Int) (n : Nat) (X : Nat → Int) (D : Int) (h : c.length ≤ n) : vsum c (ptl n X D) = shq (sm (fun j => c.getD j 0 * X j) n) D := by
  unfold vsum; rw [ptl_len, Nat.min_eq_left h, psum_ptl c n X D _ h, sm_tail _ h fun k hk => by rw [getD_ge hk, Int.zero_mul]]
theorem cmpQ_neg {p q : Rat} : cmpQ p q < 0 ↔ p < q := by
  rw [Rat.lt_iff]; unfold cmpQ; rw [Int.sign_neg_iff]; omega
theorem cmpQ_le_iff {p q : Rat} : cmpQ p q ≤ 0 ↔ p ≤ q := by
  rw [Rat.le_iff]; unfold cmpQ; rw [Int.sign_nonpos_iff]; omega
theorem cmpQ_self (p : Rat) : cmpQ p p = 0 := by unfold cmpQ; rw [Int.sub_self]; rfl
theorem shq_le_int {a D b : Int} (hD : 0 < D) (h : a ≤ D * b) : shq a D ≤ (b : Rat) := by
  rw [← Rat.mkRat_one b]; unfold shq; exact mkR_le (by omega) (by omega) (by rw [show ((D.natAbs : Nat) : Int) = D by omega]; have := Int.mul_comm b D; omega)
theorem int_le_shq {a D b : Int} (hD : 0 < D) (h : D * b ≤ a) : (b : Rat) ≤ shq a D := by
  rw [← Rat.mkRat_one b]; unfold shq; exact mkR_le (by omega) (by omega) (by rw [show ((D.natAbs : Nat) : Int) = D by omega]; have := Int.mul_comm b D; omega)
theorem Ju {a D : Int} (hD : 0 < D) : (0 ≤ a → 0 ≤ (shq a D).num) ∧ (a < 0 → (shq a D).num < 0) ∧ (0 < a → 0 < (shq a D).num) := by
  have key : ∃ m : Nat, m ≠ 0 ∧ a = (shq a D).num * m := by
    unfold shq
    cases e : mkRat a D.natAbs with
    | mk' p d z c =>
      obtain ⟨m, hm, e1, e2⟩ := Rat.mkRat_num_den (by omega) e; exact ⟨m, hm, e1⟩
  obtain ⟨m, hm, e⟩ := key
  have hm' : (0 : Int) < m := by omega
  generalize (shq a D).num = q at e; subst e; refine ⟨fun h => ?_, fun h => ?_, fun h => ?_⟩
  · exact Int.not_lt.1 fun h1 => by have := Int.mul_neg_of_neg_of_pos h1 hm'; omega
  · exact Int.not_le.1 fun h1 => by have := Int.mul_nonneg h1 (Int.le_of_lt hm'); omega
  · exact Int.not_le.1 fun h1 => by have := Int.mul_nonneg (Int.neg_nonneg_of_nonpos h1) (Int.le_of_lt hm'); rw [Int.neg_mul] at this; omega
end Go.Proofs.YtdhmbgogmoaofaaGreat
namespace Go.Proofs.YtdhmbgogmoaofaaGreat
open Go.Own Go.Limbs
attribute [local irreducible] St Ops Go.Own.Fin Ok
theorem take_map_succ {α β : Type} (f : α → β) (z : α) {xs : List α} {i : Nat} (h : i < xs.length) : (xs.take (i + 1)).map f = (xs.take i).map f ++ [f (xs.getD i z)] := by
  rw [List.take_succ_eq_append_getElem h, List.map_append]; simp [List.getD_eq_getElem?_getD, List.getElem?_eq_getElem h]
def frs (ms : List Int) : List CT := (ms.map fun m => frCs (tf m)).flatten
def col (rs : List Rw) (ys : List Int) (j : Nat) : Int := dot (rs.map fun r => r.cs.getD j 0) ys
def cols (rs : List Rw) (ys : List Int) (n : Nat) : List Int := (List.range n).map (col rs ys)
def bsum (rs : List Rw) (ys : List Int) : Int := dot (rs.map fun r => r.b) ys
def covB (os c : List Int) : Bool := decide (c.length ≤ os.length) && (List.range os.length).all fun j => decide (12 * c.getD j 0 ≤ os.getD j 0)
def pruned (ys : List Int) : Nat → List Int
  | 0 => []
  | i + 1 => if ys.getD i 0 = 0 then pruned ys i else pruned ys i ++ [(i : Int)]
structure SzQ (q : Rat) : Prop where
  n : (limbs (ofQ q).num).length ≤ 64
  d : (limbs (ofQ q).den).length ≤ 64
def colQ (rs : List Rw) (ys : List Fr) (j : Nat) : Rat := vsum (rs.map fun r => r.cs.getD j 0) ys
def bsQ (rs : List Rw) (ys : List Fr) : Rat := vsum (rs.map fun r => r.b) ys
def colsQ (rs : List Rw) (ys : List Fr) (n : Nat) : List Rat := (List.range n).map (colQ rs ys)
abbrev ratsC (qs : List Rat) : CT := .fr (sliceT 3 (qs.map fun q => frCs (ofQ q)))
def rts (qs : List Rat) : List CT := (qs.map fun q => frCs (ofQ q)).flatten
theorem rts_len (qs : List Rat) : (rts qs).length = qs.length * 3 := by
  unfold rts; rw [Xm (k := 3) (fun e he => by obtain ⟨m, _, rfl⟩ := List.mem_map.mp he; rfl)]; simp
theorem rts_snoc (qs : List Rat) (q : Rat) : rts (qs ++ [q]) = rts qs ++ frCs (ofQ q) := by simp [rts]
theorem rts_frozen (e : Nat) (qs : List Rat) : (Ent.row e 3 (rts qs)).frozen (sliceT 3 (qs.map fun q => frCs (ofQ q))) :=
  ⟨_, rfl, fun e he => by obtain ⟨m, _, rfl⟩ := List.mem_map.mp he; rfl, by decide, rfl⟩
theorem Z1 {qs : List Rat} {j : Int} (h0 : 0 ≤ j) (h : j < (qs.length : Int)) : (qs.map fun q => frCs (ofQ q))[j.toNat]? = some (frCs (ofQ (qs.getD j.toNat 0))) := map_at (fun q => frCs (ofQ q)) 0 h0 h
structure Mul (n : Nat) (rs : List Rw) (ys : List Fr) : Prop where
  len : ys.length = rs.length
  vf : ∀ f ∈ ys, VF f
  nn : ∀ f ∈ ys, f.neg = false
  c : ∀ j, j < n → VFit (rs.map fun r => r.cs.getD j 0) ys ∧ SzQ (colQ rs ys j)
  b : VFit (rs.map fun r => r.b) ys ∧ SzQ (bsQ rs ys)
theorem SzQ.int {b : Int} (h : b.natAbs ≤ 4503599627370496) : SzQ (b : Rat) := ⟨by have := (int_lens h).1; omega, by have := (int_lens h).2; omega⟩
def covQ (os : List Rat) (c : List Int) : Bool := decide (c.length ≤ os.length) && (List.range os.length).all fun j => !decide (cmpQ (os.getD j 0) (c.getD j 0 : Rat) < 0)
end Go.Proofs.YtdhmbgogmoaofaaGreat
namespace Go.Proofs.YtdhmbgogmoaofaaGreat
open Go.Own Go.Limbs Go.Det
theorem ptl_mem {n : Nat} {X : Nat → Int} {D : Int} {f : Fr} (h : f ∈ ptl n X D) : ∃ k, k < n ∧ f = ofQ (shq (X k) D) := by
  obtain ⟨k, hk, rfl⟩ := List.mem_map.1 h; exact ⟨k, List.mem_range.1 hk, rfl⟩
theorem ofQ_neg0 {q : Rat} (h : 0 ≤ q.num) : (ofQ q).neg = false := decide_eq_false (by omega)
theorem Kt9 {m : Nat} (h : m ≤ 6) : Kt m < 1073741824 ^ 9 := by
  have : m = 0 ∨ m = 1 ∨ m = 2 ∨ m = 3 ∨ m = 4 ∨ m = 5 ∨ m = 6 := by omega
  rcases this with rfl | rfl | rfl | rfl | rfl | rfl | rfl <;> decide +kernel
theorem F9.shq {a D : Int} {m : Nat} (hm : m ≤ 6) (hD : 0 < D) (h1 : D.natAbs ≤ Kt m) (h2 : a.natAbs ≤ Kt m) : F9 (ofQ (shq a D)) := by
  obtain ⟨l1, l2⟩ := mk_le a D.natAbs (by omega); have := Kt9 hm
  exact ⟨Nat.lt_of_le_of_lt l1 (by omega), Nat.lt_of_le_of_lt l2 (by omega), ZX _, fun h => by
    have : (Go.Proofs.YtdhmbgogmoaofaaGreat.shq a D).num < 0 := of_decide_eq_true h; show (Go.Proofs.YtdhmbgogmoaofaaGreat.shq a D).num.natAbs ≠ 0
    omega⟩
section
variable {n : Nat} {rs : List Rw} {D : Int} {X : Nat → Int}
theorem ptl_F9 {k m : Nat} (hm : m ≤ 6) (hD : 0 < D) (b1 : D.natAbs ≤ Kt m) (b2 : ∀ v, v < k → (X v).natAbs ≤ Kt m) : ∀ f ∈ ptl k X D, F9 f := fun f hf => by
  obtain ⟨v, hv, rfl⟩ := ptl_mem hf
  exact F9.shq hm hD b1 (b2 v hv)
theorem ptl_nn {k : Nat} (hD : 0 < D) (h : ∀ v, v < k → 0 ≤ X v) : ∀ f ∈ ptl k X D, f.neg = false := fun f hf => by
  obtain ⟨v, hv, rfl⟩ := ptl_mem hf
  exact ofQ_neg0 ((Ju hD).1 (h v hv))
theorem sat_ptl (hv : validR n rs = true) (hX : Feas n rs D X) : satB n rs (ptl n X D) = true := by
  obtain ⟨v1, v2, v3, v4⟩ := Z3 hv; unfold satB; rw [hv, ptl_len, decide_eq_true J, List.any_eq_false.2 fun f hf => by rw [ptl_nn hX.den hX.nn f hf]; decide, List.all_eq_true.2 fun r hr => ?_]
  · rfl
  · obtain ⟨i, hi, rfl⟩ := List.getElem_of_mem hr
    have e : rs.getD i rw0 = rs[i] := by simp [List.getD_eq_getElem?_getD, List.getElem?_eq_getElem hi]
    have h1 := hX.row i hi; unfold ca cb at h1; rw [e] at h1; rw [decide_eq_true_eq, cmpQ_le_iff, vsum_ptl _ _ _ _ (by have := (v4 _ hr).1; omega)]; exact shq_le_int hX.den h1
theorem mul_ptl {Y : Nat → Int} (hv : validR n rs = true) (hl : rs.length ≤ 6) (hD : 0 < D) (h : ∀ i, i < rs.length → 0 ≤ Y i) (b1 : D.natAbs ≤ Kt rs.length) (b2 : ∀ i, i < rs.length → (Y i).natAbs ≤ Kt rs.length) : Mul n rs (ptl rs.length Y D) := by
  obtain ⟨v1, v2, v3, v4⟩ := Z3 hv; have hF := ptl_F9 (k := rs.length) hl hD b1 b2
  have key : ∀ num : Rw → Int, (∀ r ∈ rs, (num r).natAbs ≤ 4503599627370496) → VFit (rs.map num) (ptl rs.length Y D) ∧ SzQ (vsum (rs.map num) (ptl rs.length Y D)) := fun num hn => by
    obtain ⟨a1, a2, a3⟩ := vfit9 (rs.map num) (ptl rs.length Y D) (by rw [List.length_map]; omega) (fun i => by
      rcases Nat.lt_or_ge i (rs.map num).length with h4 | h4
      · obtain ⟨r, hr, e⟩ := List.mem_map.1 (X1 (z := (0 : Int)) h4); have := hn r hr; rw [← e]; omega
      · rw [getD_ge h4]; decide) (by rw [ptl_len]; omega) hF
    exact ⟨a1, ⟨by omega, by omega⟩⟩
  refine ⟨ptl_len .., fun f hf => (hF f hf).vf, ptl_nn hD h, fun j hj => key _ fun r hr => ?_, key _ fun r hr => (v4 r hr).2.2⟩; rcases Nat.lt_or_ge j r.cs.length with h4 | h4
  · have := (v4 r hr).2.1 _ (X1 (z := (0 : Int)) h4); omega
  · rw [getD_ge h4]; decide
theorem getD_mapZ {α : Type} (f : α → Int) (z : α) {xs : List α} {k : Nat} (h : k < xs.length) : (xs.map f).getD k 0 = f (xs.getD k z) := by
  simp [List.getD_eq_getElem?_getD, List.getElem?_map, List.getElem?_eq_getElem h]
theorem colQ_ptl {Y : Nat → Int} (j : Nat) : colQ rs (ptl rs.length Y D) j = shq (sm (fun i => ca rs i j * Y i) rs.length) D := by
  unfold colQ; rw [vsum_ptl _ _ _ _ (by simp)]
  congr 1
  exact Xt fun i hi => by rw [getD_mapZ (fun r => r.cs.getD j 0) rw0 hi]; rfl
theorem bsQ_ptl {Y : Nat → Int} : bsQ rs (ptl rs.length Y D) = shq (sm (fun i => cb rs i * Y i) rs.length) D := by
  unfold bsQ; rw [vsum_ptl _ _ _ _ (by simp)]
  congr 1
  exact Xt fun i hi => by rw [getD_mapZ (fun r => r.b) rw0 hi]; rfl
theorem cov_ptl {Y : Nat → Int} (c : List Int) (hD : 0 < D) (hc : c.length ≤ n) (h : ∀ j, j < n → D * c.getD j 0 ≤ sm (fun i => ca rs i j * Y i) rs.length) : covQ (colsQ rs (ptl rs.length Y D) n) c = true := by
  have hl : (colsQ rs (ptl rs.length Y D) n).length = n := by simp [colsQ]
  unfold covQ; rw [hl, decide_eq_true hc, List.all_eq_true.2 fun j hj => ?_]
  · rfl
  · have hj := List.mem_range.1 hj
    have e : (colsQ rs (ptl rs.length Y D) n).getD j 0 = colQ rs (ptl rs.length Y D) j := by
      unfold colsQ; simp [List.getD_eq_getElem?_getD, List.getElem?_map, hj]
    rw [e, colQ_ptl, Bool.not_eq_true', decide_eq_false_iff_not, cmpQ_neg, Rat.not_lt]; exact int_le_shq hD (h j hj)
end
end Go.Proofs.YtdhmbgogmoaofaaGreat
namespace Go.Det
variable {A : Nat → Vec} {V : Vec → Prop} {M : Nat} {bs : List Nat}
def rq (A : Nat → Vec) (bs : List Nat) (i : Nat) (x : Vec) : Rat := ((dT A bs i x : Int) : Rat) / ((dD A bs : Int) : Rat)
theorem ratc_ne {z : Int} (h : z ≠ 0) : (z : Rat) ≠ 0 := fun e => h (Rat.intCast_inj.1 e)
theorem rq_ne {r : Nat} {x : Vec} (h : rq A bs r x ≠ 0) : dT A bs r x ≠ 0 := fun e => h (by unfold rq; rw [e]; exact Rat.zero_mul _)
theorem rq_piv_r (hne : dD A bs ≠ 0) {r s : Nat} (hp : rq A bs r (A s) ≠ 0) (x : Vec) : rq A (bs.set r s) r x = rq A bs r x / rq A bs r (A s) := by
  have h1 := ratc_ne hne; have h2 := ratc_ne (rq_ne hp); unfold rq; rw [piv_D, piv_r]; generalize ((dD A bs : Int) : Rat) = d at *; generalize ((dT A bs r (A s) : Int) : Rat) = p at *; generalize ((dT A bs r x : Int) : Rat) = y at *
  grind
theorem Bas.rq_piv_i (h : Bas A V M bs) {r s i : Nat} (hr : r < M) (hi : i < M) (hir : i ≠ r) {x : Vec} (hx : V x) (hp : rq A bs r (A s) ≠ 0) :
    rq A (bs.set r s) i x = rq A bs i x - rq A bs i (A s) * (rq A bs r x / rq A bs r (A s)) := by
  have h1 := ratc_ne h.ne; have h2 := ratc_ne (rq_ne hp); have h3 := h.piv_i (s := s) hr hi hir hx
  have h4 : ((dD A bs : Int) : Rat) * ((dT A (bs.set r s) i x : Int) : Rat) = ((dT A bs r (A s) : Int) : Rat) * ((dT A bs i x : Int) : Rat) - ((dT A bs r x : Int) : Rat) * ((dT A bs i (A s) : Int) : Rat) := by
    rw [← Rat.intCast_mul, ← Rat.intCast_mul, ← Rat.intCast_mul, ← Rat.intCast_sub, h3]
  unfold rq; rw [piv_D]; generalize ((dD A bs : Int) : Rat) = d at *; generalize ((dT A bs r (A s) : Int) : Rat) = p at *; generalize ((dT A bs r x : Int) : Rat) = y at *; generalize ((dT A bs i x : Int) : Rat) = z at *; generalize ((dT A bs i (A s) : Int) : Rat) = u at *; generalize ((dT A (bs.set r s) i x : Int) : Rat) = v at *
  grind
end Go.Det
namespace Go.Proofs.YtdhmbgogmoaofaaGreat
open Go.Own Go.Limbs Go.Det
theorem rq_shq {A : Nat → Vec} {bs : List Nat} {i : Nat} {x : Vec} (hne : dD A bs ≠ 0) : rq A bs i x = shq (tt A bs i x) (Go.Det.den A bs) := by
  have hd := den_pos hne
  have e : shq (tt A bs i x) (Go.Det.den A bs) = ((tt A bs i x : Int) : Rat) / ((Go.Det.den A bs : Int) : Rat) := by
    unfold shq; rw [Rat.mkRat_eq_div, show ((Go.Det.den A bs).natAbs : Rat) = (((Go.Det.den A bs).natAbs : Int) : Rat) from rfl, show (((Go.Det.den A bs).natAbs : Nat) : Int) = Go.Det.den A bs by omega]
  rw [e]; unfold rq tt Go.Det.den; rw [Rat.intCast_mul, Rat.intCast_mul]; have h1 := ratc_ne hne; have h2 : (((dD A bs).sign : Int) : Rat) ≠ 0 := ratc_ne (fun e => by have := sgn_sq hne; rw [e] at this; simp at this); generalize ((dD A bs : Int) : Rat) = d at *; generalize (((dD A bs).sign : Int) : Rat) = s at *; generalize ((dT A bs i x : Int) : Rat) = y at *
  grind
end Go.Proofs.YtdhmbgogmoaofaaGreat
namespace Go.Proofs.YtdhmbgogmoaofaaGreat
open Go.Own Go.Limbs
attribute [local irreducible] St Ops Go.Own.Fin Ok
structure Q9 (q : Rat) : Prop where
  n : (limbs (ofQ q).num).length ≤ 9
  d : (limbs (ofQ q).den).length ≤ 9
theorem mul_lens (p q : Rat) : (limbs (ofQ (p * q)).num).length ≤ (limbs (ofQ p).num).length + (limbs (ofQ q).num).length ∧ (limbs (ofQ (p * q)).den).length ≤ (limbs (ofQ p).den).length + (limbs (ofQ q).den).length := by
  have h := redF_mul (ofQ p) (ofQ q) (ZX p) (ZX q); rw [Yw, Yw] at h; rw [← h]; have h2 := redF_den ((ofQ p).neg != (ofQ q).neg) ((ofQ p).num * (ofQ q).num) ((ofQ p).den * (ofQ q).den) (Nat.mul_pos (ZX p) (ZX q)); exact ⟨div_len X7, Nat.le_trans (XW h2.2) X7⟩
theorem q_zero {q : Rat} (h : (limbs (ofQ q).num).length = 0) : q = 0 := by
  have h1 := limbs_len_pos (n := (ofQ q).num)
  refine Rat.num_eq_zero.1 ?_
  have : (ofQ q).num = q.num.natAbs := rfl; omega
theorem frR_rats (e : Nat) (qs : List Rat) : (Ent.row e 3 (frR (qs.map some))).frozen (sliceT 3 (qs.map fun q => frCs (ofQ q))) :=
  ⟨_, by unfold frR; simp only [List.map_map]; rfl, fun x hx => by obtain ⟨f, _, rfl⟩ := List.mem_map.1 hx; rfl, by decide, rfl⟩
def upO (v : Nat → Rat) (n i : Nat) : List (Option Rat) := (List.range n).map fun j => if j < i then some (v j) else none
theorem Jx (v : Nat → Rat) (n i : Nat) : (upO v n i).length = n := by simp [upO]
theorem upO_zero (v : Nat → Rat) (n : Nat) : upO v n 0 = List.replicate n none := by
  unfold upO
  apply List.ext_getElem?
  intro j; simp [List.getElem?_map, List.getElem?_replicate]
  split <;> simp_all
theorem upO_set (v : Nat → Rat) {n i : Nat} (h : i < n) : (upO v n i).set i (some (v i)) = upO v n (i + 1) := by
  unfold upO
  apply List.ext_getElem?
  intro j; rw [List.getElem?_set]; by_cases hj : i = j
  · subst hj; simp [h]
  · rw [if_neg hj]; simp only [List.getElem?_map]
    cases e : (List.range n)[j]? with
    | none => rfl
    | some x =>
      obtain ⟨h1, h2⟩ := List.getElem?_eq_some_iff.1 e; simp at h2; subst h2; simp only [Option.map_some]
      congr 1
      by_cases h3 : j < i
      · rw [if_pos h3, if_pos (by omega)]
      · rw [if_neg h3, if_neg (by omega)]
theorem upO_done (v : Nat → Rat) (n : Nat) : upO v n n = ((List.range n).map v).map some := by
  unfold upO; rw [List.map_map]
  exact List.map_congr_left fun j hj => by rw [if_pos (List.mem_range.1 hj)]; rfl
def lessV (a : List Rat) (k : Rat) (b : List Rat) (j : Nat) : Rat := a.getD j 0 - k * b.getD j 0
theorem goless34 : InGo Tryz.prog 85 := InGo.of Tryz.func85 (by kernel_rfl) (by kernel_rfl)
set_option maxHeartbeats 8000000 in
theorem less34_ok (a b : List Rat) (k : Rat) (hl : b.length = a.length) (h1000 : a.length ≤ 1000) (ha : ∀ q ∈ a, Q9 q) (hb : ∀ q ∈ b, Q9 q) (hk : Q9 k) :
    Ok Tryz.prog 85 [ratsC a, ratC k, ratsC b] (ratsC ((List.range a.length).map (lessV a k b))) := by
  refine Ok.enter Tryz.func85 J _ Tryz.ntmps85 J ?_
  intro S w; refine Qy (Qx fun K hK => ?_); refine XZ 0 J J J J J J J (Qv J J J (Qj (hK _ _ (Qz (Qy ?_))))); clear hK K; refine Qx (fun K hK => ?_); refine Qq J J J (Q7 J J sFracs.und (List.length_map ..) J (Z5 1 a.length J J J J sFracs (by omega) (by omega) J J J ?_)); rw [frR_made, ← upO_zero (lessV a k b)]; refine Qv J J J (Qj (hK _ _ (Qz (Qy (Qy ?_))))); clear hK K; refine Qx (fun K hK => ?_); refine Qv J J J (Qj (hK _ _ (Qz (Q0 ?_)))); clear hK K
  refine Xq (α := Nat) (fun i => i ≤ a.length)
    (fun i => [(0, .ct (ratsC a)), (2, .ct (ratsC b)), (4, .own 0), (7, .own 1), (8, .ct (intC i))])
    (fun i => [(1, .row 38 3 (frR (upO (lessV a k b) a.length i))), (0, .box 38 (frCs (ofQ k)))]) (fun i => a.length - i) 0 (Nat.zero_le _) (by exact Qu J ⟨rfl, rfl, rfl, rfl, rfl, trivial⟩) ?_
  intro i hi
  (try dsimp only at hi ⊢)
  refine Qy (Qy (Qx fun K hK => ?_)); refine Qq J J J (Qq J J J (Q7 J J sFracs.und (List.length_map ..) J (Qw ilss J J J J (Qj (hK _ _ (Qz ?_)))))); clear hK K; refine QK J (fun h => ?_) (fun h => ?_)
  · have e2 : (i : Int).toNat = i := Int.toNat_natCast i
    have hlt : i < a.length := by omega
    have qa := ha _ (X1 (z := (0 : Rat)) hlt); have qb := hb _ (X1 (z := (0 : Rat)) (show i < b.length by omega)); have eset := upO_set (lessV a k b) hlt; have ev : lessV a k b i = a.getD i 0 - k * b.getD i 0 := rfl; rw [ev] at eset
    have hidx : (frR (upO (lessV a k b) a.length i)).length = a.length * 3 := by rw [Zz, Jx]
    refine QU (Qz (Qy (Q0 (Qy (Qy (Qx fun K hK => ?_)))))); refine Qq J J J (Qq J J J (Qh J J J sFracs (by omega) (Z1 (by omega) (by omega)) J ?_)); refine Zd J J fF1 J (Xz J J J lNat J (Q7 J J sNat.und (List.length_map ..) J (Qw ieql J J J J (Qj (hK _ _ (Qz ?_)))))); clear hK K; rw [e2]; skip; refine QK J (fun h0 => ?_) (fun h0 => ?_)
    · have hz : b.getD i 0 = 0 := q_zero (by omega); rw [hz, Rat.mul_zero, Rat.sub_eq_add_neg, Rat.neg_zero, Rat.add_zero] at eset; refine Qy (Qx fun K hK => ?_); refine Qq J J J (Qq J J J (Qq J J J (Qq J J J (Qh J J J sFracs (by omega) (Z1 (by omega) (by omega)) J ?_))))
      refine Xd (n := 3) J J J Xy J J ?_
      rw [e2]; skip
      refine Xu a.length J J J hidx J sFracs (by omega) (by omega) J ?_
      rw [e2]
      refine stFr J J J J (by rw [Jx]; exact hlt) szFrac ?_
      rw [eset]; refine Qj (hK _ _ (Qz (Qr (Qz ?_)))); clear hK K; refine Qx (fun K hK => ?_); refine Qq J J J (Qw (iadd (by omega) (by omega)) J J J J ?_); refine Qv J J J (Qj (hK _ _ (Q4 ?_))); clear hK K; refine Qb (i + 1) (by omega) (by omega) (by exact Qu J ⟨rfl, rfl, rfl, rfl, by simp only [Int.natCast_add]; rfl, trivial⟩)
    · have ml := mul_lens k (b.getD i 0); have kn := hk.n; have kd := hk.d; have bn := qb.n; have bd := qb.d; have an := qa.n; have ad := qa.d; have hM := rFMul_gen (ofQ k) (ofQ (b.getD i 0)) (by omega) (by omega) (ZX _) (ZX _); rw [Yw, Yw] at hM; have hS := rFSub_q (a.getD i 0) (k * b.getD i 0) (by omega) (by omega) (by omega) (by omega); refine QU (Qz (Qy ?_)); refine Xv mixed 10 (.p 1 (.p 2 (.p 3 (.f 0 (.f 4 (.fork 5 (.p 6 (.p 7 (.p 8 (.m 9 (.a 10 (.p 11 .done)))))) 9 (.m 5 (.p 6 (.p 7 (.p 8 (.a 10 (.p 11 .done)))))))))))) (by kernel_rfl) (fun K hK => ?_); refine (fun (cont : Go.Own.Fin _ [(0, .ct (ratsC a)), (2, .ct (ratsC b)), (4, .own 0), (7, .own 1), (8, .ct (intC i)), (9, .own 2)] [(2, .box 38 (frCs (ofQ (k * b.getD i 0)))), (1, .row 38 3 (frR (upO (lessV a k b) a.length i))), (0, .box 38 (frCs (ofQ k)))] K) => ?_) (hK _ _ ?_); rotate_left
      · clear hK K; refine Qz (Xv mixed 12 (.p 0 (.p 1 (.p 2 (.p 3 (.p 4 (.f 5 (.f 6 (.m 7 (.p 8 (.p 9 (.p 10 (.p 11 (.a 12 .done))))))))))))) (by kernel_rfl) (fun K hK => ?_)); refine Qq J J J (Qq J J J (Qq J J J (Qq J J J (Qh J J J sFracs (by omega) (Z1 (by omega) (by omega)) J ?_)))); refine Xd (n := 3) J J J Xy J J (Qt (n := 3) J J J J J Xy J ?_); rw [e2]; skip; refine QQ gorFSub hS J J J J (Qq J J J (QY J J J J (QY J J J J (Xu a.length J J J hidx J sFracs (by omega) (by omega) J ?_)))); rw [e2]
        refine stFr J J J J (by rw [Jx]; exact hlt) szFrac ?_
        rw [eset]; refine Qj (hK _ _ (Qz ?_)); clear hK K; refine Qx (fun K hK => ?_); refine Qq J J J (Qw (iadd (by omega) (by omega)) J J J J ?_); refine Qv J J J (Qj (hK _ _ (Q4 ?_))); clear hK K; refine Xb 2 (Qb (i + 1) (by omega) (by omega) (by exact Qu J ⟨rfl, rfl, rfl, rfl, by simp only [Int.natCast_add]; rfl, trivial⟩))
      clear hK; refine Qq J J J (Qq J J J (Qh J J J sFracs (by omega) (Z1 (by omega) (by omega)) J ?_)); refine Qt (n := 3) J J J J J Xy J (Xd (n := 3) J J J Xy J J ?_); rw [e2]; skip
      refine Ops.fork ?_ ?_
      · refine QQ gorFMul hM J J J J (Qq J J J (QY J J J J (QY J J J J (Qf 2 J J zvFrac J J J (Qa 3 J J J J J szFrac J J (Qv J J J ?_)))))); exact Qj (Zv cont ⟨rfl, rfl, rfl, rfl, rfl, rfl, trivial⟩)
      · refine Qf 2 J J zvFrac J J J (QQ gorFMul hM J J J J (Qq J J J (QY J J J J (QY J J J J (Qa 3 J J J J J szFrac J J (Qv J J J ?_)))))); exact Qj (Zv cont ⟨rfl, rfl, rfl, rfl, rfl, rfl, trivial⟩)
  · have hi' : i = a.length := by omega
    subst hi'; rw [upO_done]; refine Xl 1 _ J (frR_rats _ _) Xe (Qr (Qz (Qy (Qx fun K hK => ?_)))); refine Qq J J J (Qv J J J (Qj (hK _ _ (Qz (Q2 ?_))))); clear hK K; refine Q1 [_] rfl (QZ J QX) J J
theorem gozeros34 : InGo Tryz.prog 80 := InGo.of Tryz.func80 (by kernel_rfl) (by kernel_rfl)
end Go.Proofs.YtdhmbgogmoaofaaGreat
namespace Go.Own
open Go.RowKit
variable {X : Ctx} {L : AL} {B : BL} {ops : Array Oper} {K : Act → World → Prop} {r : Pl} {k : Kd}
  {x y z : Operand} {d : Nat} {t t2 t' : TypeId} {pos : String} {af : Array Edge} {g : Option (Nat × Bool)}
section
variable {α : Type} {f : α → List CT} {n : Nat}
theorem el_len (hf : ∀ a, (f a).length = n) (l : List α) : (l.map f).flatten.length = l.length * n := by
  rw [Xm (k := n) (fun e he => by obtain ⟨m, _, rfl⟩ := List.mem_map.mp he; exact hf m)]; simp
theorem el_take (hf : ∀ a, (f a).length = n) (l : List α) (i : Nat) : (l.map f).flatten.take (i * n) = ((l.take i).map f).flatten := by
  induction l generalizing i with
  | nil => simp
  | cons c l ih =>
    cases i with
    | zero => simp
    | succ i =>
      rw [List.map_cons, List.flatten_cons, List.take_succ_cons, List.map_cons, List.flatten_cons, List.take_append, List.take_of_length_le (by rw [hf, Nat.succ_mul]; omega), ← ih]
      congr 2; rw [hf, Nat.succ_mul]; omega
theorem el_drop (hf : ∀ a, (f a).length = n) (l : List α) (i : Nat) : (l.map f).flatten.drop (i * n) = ((l.drop i).map f).flatten := by
  induction l generalizing i with
  | nil => simp
  | cons c l ih =>
    cases i with
    | zero => simp
    | succ i =>
      rw [List.map_cons, List.flatten_cons, List.drop_succ_cons, List.drop_append, List.drop_of_length_le (by rw [hf, Nat.succ_mul]; omega), List.nil_append, ← ih]
      congr 1; rw [hf, Nat.succ_mul]; omega
theorem el_get (hf : ∀ a, (f a).length = n) {l : List α} {i : Nat} (z : α) (h : i < l.length) : ((l.map f).flatten.drop (i * n)).take n = f (l.getD i z) := by
  rw [el_drop hf]
  conv => lhs; rw [← Nat.one_mul n]
  rw [el_take hf]
  have : (l.drop i).take 1 = [l.getD i z] := by
    rw [List.getD_eq_getElem?_getD, List.getElem?_eq_getElem h, List.drop_eq_getElem_cons h]; rfl
  rw [this]; simp
theorem el_put (hf : ∀ a, (f a).length = n) {l : List α} {i : Nat} (c : α) (h : i < l.length) : spl (l.map f).flatten (i * n) (f c) = ((l.set i c).map f).flatten := by
  unfold spl; rw [el_take hf, hf, ← Nat.succ_mul, el_drop hf, List.set_eq_take_append_cons_drop, if_pos h]; simp
theorem el_cell (hf : ∀ a, (f a).length = n) {l : List α} {i o : Nat} (z : α) (h : i < l.length) (ho : o < n) : (l.map f).flatten[i * n + o]? = (f (l.getD i z))[o]? := by
  rw [← el_get hf z h, List.getElem?_take, if_pos ho, List.getElem?_drop]
theorem el_put1 (hf : ∀ a, (f a).length = n) {l : List α} {i o : Nat} (z c : α) {ds : List CT} (h : i < l.length) (ho : o + ds.length ≤ n) (hc : spl (f (l.getD i z)) o ds = f c) : spl (l.map f).flatten (i * n + o) ds = ((l.set i c).map f).flatten := by
  rw [← el_put hf c h, ← hc]; have e := el_get hf z h
  have hl : i * n + n ≤ (l.map f).flatten.length := by rw [el_len hf, ← Nat.succ_mul]; exact Nat.mul_le_mul_right _ h
  have hn := hf (l.getD i z); generalize (l.map f).flatten = q at e hl; generalize f (l.getD i z) = p at e hn; unfold spl; subst e; generalize i * n = s at hl hn ⊢
  have hlen : (List.take o (List.take n (List.drop s q)) ++ ds ++ List.drop (o + ds.length) (List.take n (List.drop s q))).length = n := by simp; omega
  rw [hlen]
  have e1 : q.take (s + o) = q.take s ++ ((q.drop s).take n).take o := by
    rw [List.take_take, Nat.min_eq_left (by omega), ← List.take_add]
  have e2 : q.drop (s + o + ds.length) = ((q.drop s).take n).drop (o + ds.length) ++ q.drop (s + n) := by
    rw [List.drop_take, List.drop_drop, ← Nat.add_assoc, show q.drop (s + n) = (q.drop (s + o + ds.length)).drop (n - (o + ds.length)) by rw [List.drop_drop]; congr 1; omega, List.take_append_drop]
  rw [e1, e2]; simp only [List.append_assoc]
theorem ones_append : ∀ a b : List CT, ones (a ++ b) = (ones a && ones b)
  | [], b => rfl
  | c :: a, b => by simp only [List.cons_append, ones, ones_append a b, Bool.and_assoc]
theorem el_ones (h : ∀ a, ones (f a) = true) : ∀ l : List α, ones (l.map f).flatten = true
  | [] => rfl
  | a :: l => by rw [List.map_cons, List.flatten_cons, ones_append, h a, el_ones h l]; rfl
theorem stE1 {i j o el : Nat} {l : List α} {c : CT} (f : α → List CT) (z a : α) (hf : ∀ a, (f a).length = n) (hg : gd ops L g = some true) (hx : ev L x = some (.loc i (j * n + o))) (hi : bget B i = some (.row el n ((l.map f).flatten))) (hy : ev L y = some (.ct c)) (ho : c.one = true) (hj : j < l.length) (ho2 : o < n) (hc : spl (f (l.getD j z)) o [c] = f a) (hsz : (X.P.info? t).map (·.size) = some 1)
    (h : Ops X ops r L (bset B i (.row el n (((l.set j a).map f).flatten))) K) : Ops X ops (.cons ⟨none, .store t x y, t', pos, af, g⟩ .any r) L B K :=
  Ops.stG hg hx (.inl rfl) hi (one_val ho hy) hsz (by
    show j * n + o + 1 ≤ (l.map f).flatten.length
    rw [el_len hf]
    have := Nat.mul_le_mul_right n hj
    rw [Nat.succ_mul] at this; omega) (by
    have : (Ent.row el n ((l.map f).flatten)).putc (j * n + o) [c] = .row el n (((l.set j a).map f).flatten) := by rw [← el_put1 hf z a (ds := [c]) hj ho2 hc]; rfl
    rw [this]; exact h)
theorem ldE {i j : Nat} {e : Ent} {l : List α} (f : α → List CT) (z : α) (hf : ∀ a, (f a).length = n) (hk : k.rd = true) (hg : gd ops L g = some true) (hx : ev L x = some (.loc i (j * n))) (hi : bget B i = some e) (he : e.cs = (l.map f).flatten) (hj : j < l.length) (hT : LdN X.P t n) (hn : Nat.blt d X.n = true)
    (h : Ops X ops r ((d, .ct (.fr (aggT (f (l.getD j z))))) :: L) B K) : Ops X ops (.cons ⟨some d, .load t x, t', pos, af, g⟩ k r) L B K :=
  Zc hk hg hx hi (by rw [he, el_len hf, ← Nat.succ_mul]; exact Nat.mul_le_mul_right _ hj) hT hn (by rw [he, el_get hf z hj]; exact h)
end
theorem Ops.appNil (i : Nat) {el n bytes : Nat} {zv : Value} {es : List (List CT)} (hg : gd ops L g = some true) (hx : ev L x = some (.ct (.ex (.slice none 0 0)))) (hy : ev L y = some (.ct (.fr (sliceT n es)))) (hT : SlcT X.P t el n bytes zv) (ho : ones es.flatten = true) (hb : es.length * bytes ≤ 140737488355328) (hmx : es.length ≤ 140737488355328) (hN : noN i L = true) (hB : bget B i = none) (hn : Nat.blt d X.n = true)
    (h : Ops X ops r ((d, .own i) :: L) ((i, .row el n es.flatten) :: B) K) : Ops X ops (.cons ⟨some d, .call { callee := .builtin .append, args := #[x, y], argTypes := #[t, t] }, t', pos, af, g⟩ .any r) L B K :=
  Ops.mkE (k := .any) rfl hg rfl hn hN hB (fun a ρ w hI => by
    obtain ⟨ad, c, hy1, hy2, hy3, hy4, hy5⟩ := hI.ev hy
    obtain ⟨nf, h1, h2, h3, h4⟩ := hT.inf
    have hmax : 0 + es.length ≤ maxLen := by simp only [maxLen]; omega
    have key : ∃ v' w', (Builtin.append_ #[t, t] t' #[.slice none 0 0, a.eval y]).run X.P w = .ok v' w' ∧ (∃ news, cells (Sof X B ρ) w es.flatten news ∧ w'.ownsRow 0 el n v' (0 + es.length) ([] ++ news)) ∧ w.grownBy w' (Value.slice none 0 0).ownBlock ∧ (blk v' = blk (.slice none 0 0) ∨ ∀ g, blk v' = some g → w.heap.size ≤ g) := by
      rw [hy1]; have how : w.ownsRow 0 el n (.slice none 0 0) 0 [] := World.ownsRow_nil _ _ _ _; by_cases he : es = []
      · subst he
        cases ad with
        | none => exact ⟨.slice none 0 0, w, by simp [Builtin.append_, run_underlying hT.und, sizeOf, typeInfo, h1, Builtin.lenOf, Builtin.firstCells], ⟨[], trivial, how⟩, ⟨rfl, rfl, rfl, Nat.le_refl _, fun _ _ _ => rfl⟩, .inl J⟩
        | some ad =>
          obtain ⟨v', w', r1, r2, r3, r4⟩ := JX (P := X.P) w t t' el nf zv n bytes hT.und h1 h4 h2 h3 hT.zs hT.pos _ 0 [] how ad 0 c [] (by simp) (by simp) (by simp) (by simp) (by simp); exact ⟨v', w', r1, ⟨[], trivial, r2⟩, r3, r4⟩
      · obtain ⟨b, o, rfl, hS, hlt, news, hn1, hn2⟩ := hy5 he; obtain ⟨v', w', r1, r2, r3, r4⟩ := JX (P := X.P) w t t' el nf zv n bytes hT.und h1 h4 h2 h3 hT.zs hT.pos _ 0 [] how ⟨b, o, none⟩ es.length c news (by rw [hn1.length, Xm hy4]) (fun j u hu => by rw [Yf]; exact hn2 j u hu) (ones_cells ho hn1) hmax (by simpa using hb); exact ⟨v', w', r1, ⟨news, hn1, r2⟩, r3, r4⟩
    obtain ⟨v', w', r1, ⟨news, r2, r3⟩, r4, r5⟩ := key
    refine ⟨v', w', ZW (args := [x, y]) (fun _ => by
      simp only [List.map_cons, List.map_nil, hI.evx hx]
      exact ZQ r1), ⟨r4.os, r4.tape, r4.output, r4.size, fun q hq => r4.block q hq (fun e => by cases e)⟩, fun gb hgb => ?_, fun S' hk => ⟨0 + es.length, [] ++ news, r3, r2.mono hk⟩⟩
    rcases r5 with h5 | h5
    · rw [h5] at hgb; cases hgb
    · exact h5 gb hgb) h
theorem St.name {c : Code} {Q : Exit → Act → World → Prop} (dd i : Nat) {el n : Nat} {cs : List CT} (hd : look L dd = some (.own i)) (hi : bget B i = some (.row el n cs)) (h : ∀ v : Value, v.oneCell' = true → St X ((dd, .ct (.ex v)) :: L) (bset B i (.rowx v el n cs)) c Q) : St X L B c Q := Fin.name dd i hd hi h
theorem keepL_id {i : Nat} : ∀ {L : AL}, noN i L = true → keepL (fun j => !Nat.beq j i) L = L
  | [], _ => rfl
  | (d, s) :: L, h => by
    simp only [noN, Bool.and_eq_true] at h
    rw [keepL, keepL_id h.2]
    congr 2
    cases s with
    | own j => have := h.1; simp only [Sl.keepN, this, if_true]
    | loc j o => have := h.1; simp only [Sl.keepN, this, if_true]
    | ct c => rfl
    | any => rfl
theorem bget_end {i : Nat} {e : Ent} (C : BL) (h : bget C i = none) (j : Nat) : bget (C ++ [(i, e)]) j = bget ((i, e) :: C) j := by
  rw [Zj]; by_cases hij : i = j
  · subst hij; rw [h, Ql, Ql]; rfl
  · rw [Q3 _ _ hij, Q3 _ _ hij]; cases bget C j <;> rfl
theorem Ops.callP {f : FuncId} {x0 : Operand} {tys : Array TypeId} {α : Type} {J : α → Prop} {R : α → CT} {e0 : Ent} {D E : α → Ent} (C : BL) (hgo : InGo X.P f) (hok : OkM X.P f [.own 0] [(0, e0)] [0] J (fun q => .ct (R q)) (fun q => [(9, E q), (0, D q)])) (hg : gd ops L g = some true) (hargs : ev L x0 = some (.own 0)) (hn : Nat.blt d X.n = true)
    (hbor : X.bor = noBor) (hB : B = C ++ [(0, e0)]) (hC0 : bget C 0 = none) (hC9 : bget C 9 = none) (hfix : X.fix = []) (hL : noN 9 L = true)
    (h : ∀ q, J q → Ops X ops r ((d, .ct (R q)) :: L) ((9, E q) :: C ++ [(0, D q)]) K) : Ops X ops (.cons ⟨some d, .call { callee := .value (.func f), args := #[x0], argTypes := tys }, t, pos, af, g⟩ .any r) L B K := by
  subst hB; refine Ops.callM (args := [x0]) C (fun j => !Nat.beq j 9) hgo hok hg (by simp only [evS, hargs]) hn (fun gb hg => by rw [hbor] at hg; exact hg.elim) (bget_end C hC0) (fun j hj => ?_) (fun j hj => ?_) (fun p hp => by rw [hfix] at hp; cases hp) (fun q j hq => ?_) (fun q hq => ?_)
  · have h0 : 0 ≠ j := fun e => by subst e; rw [hC0] at hj; cases hj
    have h9 : 9 ≠ j := fun e => by subst e; rw [hC9] at hj; cases hj
    exact ⟨Q3 _ _ h0, fun q => by rw [Q3 _ _ h9, Q3 _ _ h0]; rfl⟩
  · by_cases h0 : 0 = j
    · subst h0; exact .inl (List.mem_singleton.2 rfl)
    · have h9 : 9 ≠ j := fun e => by subst e; cases hj
      exact .inr fun q => by rw [Q3 _ _ h9, Q3 _ _ h0]; rfl
  · rcases hq with hq | ⟨_, hq⟩ <;> cases hq
  · rw [keepL_id hL]; intro a ρ w hI
    exact h q hq a ρ w (hI.bext fun j => by
      show bget ((9, E q) :: (C ++ [(0, D q)])) j = bget ((9, E q) :: (0, D q) :: C) j; by_cases h9 : 9 = j
      · subst h9; rw [Ql, Ql]
      · rw [Q3 _ _ h9, Q3 _ _ h9, bget_end C hC0])
end Go.Own
namespace Go.Proofs.YtdhmbgogmoaofaaGreat
open Go.Own Go.Limbs
attribute [local irreducible] St Ops Go.Own.Fin Ok OkM
theorem sRat2 : SlcT Tryz.prog 34 25 1 24 (.slice none 0 0) := SlcT.of Tryz.underlying34 (by kernel_rfl) rfl (by decide)
theorem lRat2 : Ld1 Tryz.prog 34 := Ld1.of _ Tryz.underlying34 rfl
theorem lRat1 : Ld1 Tryz.prog 25 := Ld1.of _ Tryz.underlying25 rfl
theorem zFracs : (Tryz.prog.info? 25).map (·.size) = some 1 := by kernel_rfl
theorem fG0 : fldInfo Tryz.prog 102 0 = some (0, some 1) := by kernel_rfl
theorem fG1 : fldInfo Tryz.prog 102 1 = some (1, some 1) := by kernel_rfl
theorem fG2 : fldInfo Tryz.prog 102 2 = some (2, some 1) := by kernel_rfl
theorem fG3 : fldInfo Tryz.prog 102 3 = some (3, some 1) := by kernel_rfl
theorem fG4 : fldInfo Tryz.prog 102 4 = some (4, some 1) := by kernel_rfl
theorem zvTab : (Tryz.prog.info? 102).map (·.zero) = some (some (.agg #[.int .i64 0, .int .i64 0, .slice none 0 0, .slice none 0 0, .slice none 0 0])) := by kernel_rfl
theorem lTab : LdN Tryz.prog 102 5 := LdN.of _ Tryz.underlying102 rfl (by kernel_rfl)
theorem szTab5 : (Tryz.prog.info? 102).map (·.size) = some 5 := by kernel_rfl
abbrev taCs (n m : Nat) (hr : Value) (goal : List Rat) (hb : Value) : List CT := [intC n, intC m, .ex hr, ratsC goal, .ex hb]
abbrev taC (n m : Nat) (hr : Value) (goal : List Rat) (hb : Value) : CT := .fr (aggT (taCs n m hr goal hb))
def rowsR (rows : List (List Rat)) : List CT := rows.map ratsC
theorem rowsR_len (rows : List (List Rat)) : (rowsR rows).length = rows.length * 1 := by simp [rowsR]
theorem rowsR_at {rows : List (List Rat)} {i : Nat} (h : i < rows.length) : (rowsR rows)[i]? = some (ratsC (rows.getD i [])) := by
  unfold rowsR; rw [List.getElem?_map, List.getElem?_eq_getElem h, List.getD_eq_getElem?_getD, List.getElem?_eq_getElem h]; rfl
theorem rowsR_set (rows : List (List Rat)) (i : Nat) (q : List Rat) : (rowsR rows).set i (ratsC q) = rowsR (rows.set i q) := by unfold rowsR; rw [List.map_set]
def mixR (rows rows' : List (List Rat)) (i k : Nat) : List (List Rat) := (List.range rows.length).map fun q => if q < k ∨ q = i then rows'.getD q [] else rows.getD q []
theorem mixR_len (rows rows' : List (List Rat)) (i k : Nat) : (mixR rows rows' i k).length = rows.length := by simp [mixR]
theorem mixR_at {rows rows' : List (List Rat)} {i k q : Nat} (h : q < rows.length) : (mixR rows rows' i k).getD q [] = if q < k ∨ q = i then rows'.getD q [] else rows.getD q [] := by
  unfold mixR; simp [List.getD_eq_getElem?_getD, List.getElem?_map, h]
theorem mixR_set {rows rows' : List (List Rat)} {i k : Nat} (h : k < rows.length) : (mixR rows rows' i k).set k (rows'.getD k []) = mixR rows rows' i (k + 1) := by
  unfold mixR
  apply List.ext_getElem?
  intro q; rw [List.getElem?_set]; by_cases hq : k = q
  · subst hq; simp [h]
  · rw [if_neg hq]; simp only [List.getElem?_map]
    cases e : (List.range rows.length)[q]? with
    | none => rfl
    | some x =>
      obtain ⟨h1, h2⟩ := List.getElem?_eq_some_iff.1 e; simp at h2; subst h2; simp only [Option.map_some]
      congr 1
      by_cases h3 : q < k ∨ q = i
      · rw [if_pos h3, if_pos (by omega)]
      · rw [if_neg h3, if_neg (by omega)]
theorem mixR_skip {rows rows' : List (List Rat)} {i k : Nat} (h : k < rows.length) (he : k = i ∨ rows.getD k [] = rows'.getD k []) : mixR rows rows' i k = mixR rows rows' i (k + 1) := by
  rw [← mixR_set h]; refine (Go.Det.set_same ?_).symm; have h1 := mixR_at (rows := rows) (rows' := rows') (i := i) (k := k) h
  have h2 : (mixR rows rows' i k)[k]? = some ((mixR rows rows' i k).getD k []) := by
    rw [List.getD_eq_getElem?_getD, List.getElem?_eq_getElem (by rw [mixR_len]; exact h)]; rfl
  rw [h2, h1]; rcases he with he | he
  · rw [if_pos (.inr he)]
  · split
    · rfl
    · rw [he]
theorem mixR_first {rows rows' : List (List Rat)} {i : Nat} (h : i < rows.length) : rows.set i (rows'.getD i []) = mixR rows rows' i 0 := by
  unfold mixR
  apply List.ext_getElem?
  intro q; rw [List.getElem?_set]; by_cases hq : i = q
  · subst hq; simp [h]
  · rw [if_neg hq]; rcases Nat.lt_or_ge q rows.length with h1 | h1
    · simp [h1, Ne.symm hq, List.getD_eq_getElem?_getD]
    · rw [List.getElem?_eq_none h1, List.getElem?_eq_none (by simpa using h1)]
theorem mixR_done {rows rows' : List (List Rat)} {i : Nat} (hl : rows'.length = rows.length) : mixR rows rows' i rows.length = rows' := by
  unfold mixR
  apply List.ext_getElem?
  intro q; simp only [List.getElem?_map]; rcases Nat.lt_or_ge q rows.length with h1 | h1
  · simp [h1, List.getD_eq_getElem?_getD, List.getElem?_eq_getElem (show q < rows'.length by omega)]
  · rw [List.getElem?_eq_none (by simpa using h1), List.getElem?_eq_none (by omega)]; rfl
structure Piv (W : Nat) (rows rows' : List (List Rat)) (goal goal' : List Rat) (i j : Nat) : Prop where
  hi : i < rows.length
  hj : j < W
  few : rows.length ≤ 100
  thin : W ≤ 200
  len : rows'.length = rows.length
  w : ∀ k, k < rows.length → (rows.getD k []).length = W
  w' : ∀ k, k < rows.length → (rows'.getD k []).length = W
  g : goal.length = W
  g' : goal'.length = W
  q : ∀ k, k < rows.length → ∀ x ∈ rows.getD k [], Q9 x
  q' : ∀ x ∈ rows'.getD i [], Q9 x
  qg : ∀ x ∈ goal, Q9 x
  ne : (rows.getD i []).getD j 0 ≠ 0
  pr : ∀ c, c < W → (rows'.getD i []).getD c 0 = (rows.getD i []).getD c 0 / (rows.getD i []).getD j 0
  po : ∀ k, k < rows.length → k ≠ i → ∀ c, c < W → (rows'.getD k []).getD c 0 = (rows.getD k []).getD c 0 - (rows.getD k []).getD j 0 * (rows'.getD i []).getD c 0
  pg : ∀ c, c < W → goal'.getD c 0 = goal.getD c 0 - goal.getD j 0 * (rows'.getD i []).getD c 0
theorem list_of {W : Nat} {l : List Rat} {v : Nat → Rat} (hl : l.length = W) (h : ∀ c, c < W → l.getD c 0 = v c) : (List.range W).map v = l := by
  apply List.ext_getElem?
  intro c; rcases Nat.lt_or_ge c W with h1 | h1
  · have := h c h1; rw [List.getD_eq_getElem?_getD, List.getElem?_eq_getElem (by omega)] at this; simp [h1, ← this, List.getElem?_eq_getElem (show c < l.length by omega)]
  · rw [List.getElem?_eq_none (by simpa using h1), List.getElem?_eq_none (by omega)]
theorem list_eq {W : Nat} {a b : List Rat} (ha : a.length = W) (hb : b.length = W) (h : ∀ c, c < W → a.getD c 0 = b.getD c 0) : a = b := by
  rw [← list_of ha h, list_of hb fun _ _ => rfl]
section
variable {W : Nat} {rows rows' : List (List Rat)} {goal goal' : List Rat} {i j : Nat}
theorem Piv.row (h : Piv W rows rows' goal goal' i j) {k : Nat} (hk : k < rows.length) (hki : k ≠ i) : (List.range (rows.getD k []).length).map (lessV (rows.getD k []) ((rows.getD k []).getD j 0) (rows'.getD i [])) = rows'.getD k [] := by
  rw [h.w k hk]; exact list_of (h.w' k hk) (h.po k hk hki)
theorem Piv.row0 (h : Piv W rows rows' goal goal' i j) {k : Nat} (hk : k < rows.length) (hki : k ≠ i) (h0 : (rows.getD k []).getD j 0 = 0) : rows.getD k [] = rows'.getD k [] :=
  list_eq (h.w k hk) (h.w' k hk) fun c hc => by rw [h.po k hk hki c hc, h0, Rat.zero_mul, Rat.sub_eq_add_neg, Rat.neg_zero, Rat.add_zero]
theorem Piv.goalr (h : Piv W rows rows' goal goal' i j) : (List.range goal.length).map (lessV goal (goal.getD j 0) (rows'.getD i [])) = goal' := by
  rw [h.g]; exact list_of h.g' h.pg
theorem Piv.goal0 (h : Piv W rows rows' goal goal' i j) (h0 : goal.getD j 0 = 0) : goal = goal' :=
  list_eq h.g h.g' fun c hc => by rw [h.pg c hc, h0, Rat.zero_mul, Rat.sub_eq_add_neg, Rat.neg_zero, Rat.add_zero]
end
end Go.Proofs.YtdhmbgogmoaofaaGreat
namespace Go.Proofs.YtdhmbgogmoaofaaGreat
open Go.Own Go.Limbs
attribute [local irreducible] St Ops Go.Own.Fin Ok
theorem VF.szq {q : Rat} (h : VF (ofQ q)) : SzQ q := ⟨h.1, h.2⟩
theorem SzQ.vf {q : Rat} (h : SzQ q) : VF (ofQ q) := VF.q q h.n h.d
theorem Mul.cols {n : Nat} {rs : List Rw} {ys : List Fr} (H : Mul n rs ys) : ∀ q ∈ colsQ rs ys n, SzQ q := fun q hq => by
  obtain ⟨j, hj, rfl⟩ := List.mem_map.1 hq
  exact (H.c j (List.mem_range.1 hj)).2
theorem colsQ_len (rs : List Rw) (ys : List Fr) (n : Nat) : (colsQ rs ys n).length = n := by simp [colsQ]
theorem gorCombine : InGo Tryz.prog 47 := InGo.of Tryz.func47 (by kernel_rfl) (by kernel_rfl)
set_option maxHeartbeats 8000000 in
theorem rCombine_gen (n : Nat) (rs : List Rw) (ys : List Fr) (hv : validR n rs = true) (H : Mul n rs ys) :
    Ok Tryz.prog 47 [intC n, rowsC rs, fracsC ys] (.fr (tupT [ratsC (colsQ rs ys n), ratC (bsQ rs ys), intC 0])) := by
  obtain ⟨v1, v2, v3, v4⟩ := Z3 hv; have hV := Y5 n rs (by omega) (fun r hr => by have := (v4 r hr).1; omega); rw [hv] at hV; have hl := H.len; have hP := Point_ok rs.length ys (by omega) H.vf; rw [decide_eq_true (show (ys.length : Int) = (rs.length : Int) by omega), show ys.any (fun f => f.neg) = false from List.any_eq_false.2 fun f hf => by rw [H.nn f hf]; decide] at hP; have hP : Ok Tryz.prog 66 [intC rs.length, fracsC ys] (boolC true) := hP
  refine Ok.enter Tryz.func47 J _ Tryz.ntmps47 J ?_
  intro S w; refine Qy (Qx fun K hK => ?_); refine Qv J J J (Qf 0 J J zvFrac J J J (Qv J J J (Qj (hK _ _ (Qz (Qy (Qy ?_))))))); clear hK K; refine Qx (fun K hK => ?_); refine Qq J J J (Qq J J J (QQ gorLValid hV J J J J (Xj J J J (Qj (hK _ _ (Qz (XY J (QU (Qz (Qy (Qy ?_))))))))))); clear hK K; refine Qx (fun K hK => ?_); refine Qq J J J (Q7 J J sRows.und (List.length_map ..) J (Qq J J J (QQ goPoint hP J J J J (Xj J J J (Qj (hK _ _ (Qz (XY J (QU (Qz (Qy ?_))))))))))); clear hK K; refine Qx (fun K hK => ?_); refine Qv J J J (Qj (hK _ _ (Qz (Qy (Qy ?_))))); clear hK K; refine Qx (fun K hK => ?_); refine Qv J J J (Qj (hK _ _ (Qz (Q0 ?_)))); clear hK K
  refine Yv 9 1 38 3 J J J ?_
  refine Xq (α := Nat) (fun i => i ≤ n)
    (fun i => [(0, .ct (intC n)), (1, .ct (rowsC rs)), (2, .ct (fracsC ys)), (7, .own 0), (9, .own 1), (10, .ct (intC i))])
    (fun i => [(1, .row 38 3 (rts (colsQ rs ys i))), (0, .box 38 [.ex (.bool false), .ex (.slice none 0 0), .ex (.slice none 0 0)])]) (fun i => n - i) 0 (Nat.zero_le _) (by exact Qu J ⟨rfl, rfl, rfl, rfl, rfl, rfl, trivial⟩) ?_
  intro i hi
  (try dsimp only at hi ⊢)
  refine Qy (Qy (Qx fun K hK => ?_)); refine Qq J J J (Qq J J J (Qw ilss J J J J (Qj (hK _ _ (Qz ?_))))); clear hK K; refine QK J (fun h => ?_) (fun h => ?_)
  · refine QU (Qz (Qy (Q0 (Qy (Qx fun K hK => ?_))))); refine Qv J J J (Qj (hK _ _ (Qz (Qy (Qy ?_))))); clear hK K; refine Qx (fun K hK => ?_); refine Qv J J J (Qj (hK _ _ (Qz (Q0 ?_)))); clear hK K
    refine Yv 11 2 3 1 J J J ?_
    refine Xq (α := Nat) (fun k => k ≤ rs.length)
      (fun k => [(0, .ct (intC n)), (1, .ct (rowsC rs)), (2, .ct (fracsC ys)), (7, .own 0), (9, .own 1), (10, .ct (intC i)), (11, .own 2), (12, .ct (intC k))])
      (fun k => [(2, .row 3 1 (ints ((rs.take k).map fun r => r.cs.getD i 0))), (1, .row 38 3 (rts (colsQ rs ys i))), (0, .box 38 [.ex (.bool false), .ex (.slice none 0 0), .ex (.slice none 0 0)])]) (fun k => rs.length - k) 0 (Nat.zero_le _) (by exact Qu J ⟨rfl, rfl, rfl, rfl, rfl, rfl, rfl, rfl, trivial⟩) ?_
    intro k hk
    (try dsimp only at hk ⊢)
    refine Qy (Qy (Qx fun K hK => ?_)); refine Qq J J J (Qq J J J (Q7 J J sRows.und (List.length_map ..) J (Qw ilss J J J J (Qj (hK _ _ (Qz ?_)))))); clear hK K; refine QK J (fun h2 => ?_) (fun h2 => ?_)
    · have e2 : (k : Int).toNat = k := Int.toNat_natCast k; have e3 : (i : Int).toNat = i := Int.toNat_natCast i
      have hlt : k < rs.length := by omega
      refine QU (Qz (Qy (Q0 (Qy (Qx fun K hK => ?_))))); refine Qv J J J (Qj (hK _ _ (Qz (Qy (Qy ?_))))); clear hK K; refine Qx (fun K hK => ?_); refine Qq J J J (Qq J J J (Qq J J J (Qh J J J sRows (by omega) (Zf (by omega) (by omega)) J ?_))); refine Zd J J fR0 J (Xz J J J lInts J (Q7 J J sInts.und (List.length_map ..) J (Qw ilss J J J J (Qj (hK _ _ (Qz ?_)))))); clear hK K; rw [e2]; skip; refine QK J (fun h3 => ?_) (fun h3 => ?_)
      · refine Qx (fun K hK => ?_); refine Qq J J J (Qq J J J (Qh J J J sRows (by omega) (Zf (by omega) (by omega)) J ?_)); refine Zd J J fR0 J (Xz J J J lInts J (Qq J J J ?_)); rw [e2]
        refine Qh J J J sInts (by omega) (X3 (by omega) (by omega)) J ?_
        refine Xz J J J lInt J (Qv J J J (Qj (hK _ _ (Qz ?_)))); clear hK K; refine Qx (fun K hK => ?_); refine Qq J J J (Qq J J J ?_); rw [e3]; skip; refine XQ J J sInts J J J (Qi k (ints ((rs.take (k + 1)).map fun r => r.cs.getD i 0)) J J J J sInts (by simp [ints]; omega) J (by omega) (by omega) (by rw [take_map_succ (fun r : Rw => r.cs.getD i 0) rw0 hlt]; simp [ints]) J ?_); refine Qv J J J (Qj (hK _ _ (Qz ?_))); clear hK K; refine Qx (fun K hK => ?_); refine Qq J J J (Qw (iadd (by omega) (by omega)) J J J J ?_); refine Qv J J J (Qj (hK _ _ (Q4 ?_))); clear hK K; refine Qb (k + 1) (by omega) (by omega) (by exact Qu J ⟨rfl, rfl, rfl, rfl, rfl, rfl, rfl, by simp only [Int.natCast_add]; rfl, trivial⟩)
      · have ec : (rs.getD k rw0).cs.getD i 0 = 0 := getD_ge (by omega); refine QU (Qz (Qx fun K hK => ?_)); refine Qq J J J (Qq J J J (XQ J J sInts J J J (Qi k (ints ((rs.take (k + 1)).map fun r => r.cs.getD i 0)) J J J J sInts (by simp [ints]; omega) J (by omega) (by omega) (by rw [take_map_succ (fun r : Rw => r.cs.getD i 0) rw0 hlt, ec]; simp [ints]) J ?_))); refine Qv J J J (Qj (hK _ _ (Qz ?_))); clear hK K; refine Qx (fun K hK => ?_); refine Qq J J J (Qw (iadd (by omega) (by omega)) J J J J ?_); refine Qv J J J (Qj (hK _ _ (Q4 ?_))); clear hK K; refine Qb (k + 1) (by omega) (by omega) (by exact Qu J ⟨rfl, rfl, rfl, rfl, rfl, rfl, rfl, by simp only [Int.natCast_add]; rfl, trivial⟩)
    · have hk' : k = rs.length := by omega
      subst hk'; rw [List.take_length]
      refine Xl 2 _ J (Xc _ _) Xe ?_
      have hVi := rValue_gen _ ys (H.c i (by omega)).1; refine Qr (Qz (Qy (Qx fun K hK => ?_))); refine Qq J J J (Qq J J J (QQ gorValue hVi J J J J (Qq J J J (QY J J J J (QY J J J J (Qf 2 J J zvFrac J J J (Qa 3 J J J J J szFrac J J (Qv J J J (Qj (hK _ _ (Qz (Qy (Qy ?_))))))))))))); clear hK K; refine Qx (fun K hK => ?_); refine Qq J J J (Qw ineq J J J J (Qj (hK _ _ (Qz (XY J (QU (Qz ?_))))))); clear hK K; refine Qx (fun K hK => ?_); refine Qq J J J (Qt (n := 3) J J J J J Xy J (Ops.litN (n := 3) J J sFracs J J (by decide) J ?_))
      refine Qi i (rts (colsQ rs ys (i + 1))) J J J J sFracs (by rw [rts_len]; simp [colsQ]) J (by omega) (by omega) (by unfold colsQ; rw [List.range_succ, List.map_append]; exact rts_snoc _ _) J ?_
      refine Qv J J J (Qj (hK _ _ (Qz ?_))); clear hK K; refine Qx (fun K hK => ?_); refine Qq J J J (Qw (iadd (by omega) (by omega)) J J J J ?_); refine Qv J J J (Qj (hK _ _ (Q4 ?_))); clear hK K; refine Xb 2 (Qb (i + 1) (by omega) (by omega) (by exact Qu J ⟨rfl, rfl, rfl, rfl, rfl, by simp only [Int.natCast_add]; rfl, trivial⟩))
  · have hi' : i = n := by omega
    subst hi'; refine Xl 1 _ J (rts_frozen _ _) Xe (Qr (Qz (Qy (Qx fun K hK => ?_)))); refine Qv J J J (Qj (hK _ _ (Qz (Qy (Qy ?_))))); clear hK K; refine Qx (fun K hK => ?_); refine Qv J J J (Qj (hK _ _ (Qz (Q0 ?_)))); clear hK K
    refine Yv 16 2 3 1 J J J ?_
    refine Xq (α := Nat) (fun k => k ≤ rs.length)
      (fun k => [(1, .ct (rowsC rs)), (2, .ct (fracsC ys)), (7, .own 0), (9, .ct (ratsC (colsQ rs ys i))), (16, .own 2), (17, .ct (intC k))])
      (fun k => [(2, .row 3 1 (ints ((rs.take k).map fun r => r.b))), (0, .box 38 [.ex (.bool false), .ex (.slice none 0 0), .ex (.slice none 0 0)])]) (fun k => rs.length - k) 0 (Nat.zero_le _) (by exact Qu J ⟨rfl, rfl, rfl, rfl, rfl, rfl, trivial⟩) ?_
    intro k hk
    (try dsimp only at hk ⊢)
    refine Qy (Qy (Qx fun K hK => ?_)); refine Qq J J J (Qq J J J (Q7 J J sRows.und (List.length_map ..) J (Qw ilss J J J J (Qj (hK _ _ (Qz ?_)))))); clear hK K; refine QK J (fun h2 => ?_) (fun h2 => ?_)
    · have e2 : (k : Int).toNat = k := Int.toNat_natCast k
      have hlt : k < rs.length := by omega
      refine QU (Qz (Qy (Q0 (Qx fun K hK => ?_)))); refine Qq J J J (Qq J J J (Qq J J J (Qh J J J sRows (by omega) (Zf (by omega) (by omega)) J ?_))); refine Zd J J fR1 J (Xz J J J lInt J ?_); rw [e2]; skip; refine XQ J J sInts J J J (Qi k (ints ((rs.take (k + 1)).map fun r => r.b)) J J J J sInts (by simp [ints]; omega) J (by omega) (by omega) (by rw [take_map_succ (fun r : Rw => r.b) rw0 hlt]; simp [ints]) J ?_); refine Qv J J J (Qj (hK _ _ (Qz ?_))); clear hK K; refine Qx (fun K hK => ?_); refine Qq J J J (Qw (iadd (by omega) (by omega)) J J J J ?_); refine Qv J J J (Qj (hK _ _ (Q4 ?_))); clear hK K; refine Qb (k + 1) (by omega) (by omega) (by exact Qu J ⟨rfl, rfl, rfl, rfl, rfl, by simp only [Int.natCast_add]; rfl, trivial⟩)
    · have hk' : k = rs.length := by omega
      subst hk'; rw [List.take_length]
      refine Xl 2 _ J (Xc _ _) Xe ?_
      have hVb := rValue_gen _ ys H.b.1; refine Qr (Qz (Qy (Qx fun K hK => ?_))); refine Qq J J J (Qq J J J (QQ gorValue hVb J J J J (Qq J J J (QY J J J J (QY J J J J (Qf 1 J J zvFrac J J J (Qa 3 J J J J J szFrac J J (Qv J J J (Qj (hK _ _ (Qz (Qy (Qy ?_))))))))))))); clear hK K; refine Qx (fun K hK => ?_); refine Qq J J J (Qw ineq J J J J (Qj (hK _ _ (Qz (XY J (QU (Qz (Qy ?_)))))))); clear hK K; refine Xv mixed 3 (.p 0 (.p 2 (.f 1 (.a 3 (.p 4 .done))))) (by kernel_rfl) (fun K hK => ?_); refine Qq J J J (Qv J J J (Qt (n := 3) J J J J J Xy J (Qa 3 J J J J J szFrac J J (Qv J J J (Qj (hK _ _ (Qz (Q2 ?_)))))))); clear hK K; refine Q1 [_, _, _] rfl (QZ J (Qd (n := 3) J J Xy J (QZ J QX))) J J
theorem cmpQ_flip (p q : Rat) : 0 < cmpQ p q ↔ cmpQ q p < 0 := by
  unfold cmpQ; rw [Int.sign_pos_iff, Int.sign_neg_iff]; omega
theorem gorcovers : InGo Tryz.prog 110 := InGo.of Tryz.func110 (by kernel_rfl) (by kernel_rfl)
set_option maxHeartbeats 4000000 in
theorem rcovers_q (os : List Rat) (c : List Int) (hl : os.length ≤ 64) (hlc : c.length ≤ 64) (ho : ∀ y ∈ os, SzQ y) (hc : ∀ y ∈ c, y.natAbs ≤ 4503599627370496) : Ok Tryz.prog 110 [intsC c, ratsC os] (boolC (covQ os c)) := by
  refine Ok.enter Tryz.func110 J _ Tryz.ntmps110 J ?_
  intro S w; refine Qy (Qx fun K hK => ?_); refine Qv J J J (Qj (hK _ _ (Qz (Qy (Qy ?_))))); clear hK K; refine Qx (fun K hK => ?_); refine Qq J J J (Q7 J J sInts.und (List.length_map ..) J (Qq J J J (Q7 J J sFracs.und (List.length_map ..) J (Qw igtr J J J J (Qj (hK _ _ (Qz ?_))))))); clear hK K; refine QK J (fun h => ?_) (fun h => ?_)
  · refine Qy (Qx fun K hK => ?_); refine Qv J J J (Qj (hK _ _ (Qz (Q2 (QW ?_))))); clear hK K; refine Q1 [_] rfl (QZ J QX) (by unfold covQ; rw [decide_eq_false (show ¬ c.length ≤ os.length by omega)]; rfl) J
  have hle : c.length ≤ os.length := by omega
  clear h; refine QU (Qz (Qy (Qy (Qx fun K hK => ?_)))); refine Qv J J J (Qj (hK _ _ (Qz (Q0 ?_)))); clear hK K
  refine Xq (α := Nat) (fun i => i ≤ os.length ∧ ∀ j, j < i → ¬ cmpQ (os.getD j 0) (c.getD j 0 : Rat) < 0)
    (fun i => [(0, .ct (intsC c)), (1, .ct (ratsC os)), (5, .ct (intC i))]) (fun _ => []) (fun i => os.length - i) 0 ⟨Nat.zero_le _, fun j h => absurd h (Nat.not_lt_zero j)⟩ (by exact Qu J ⟨rfl, rfl, rfl, trivial⟩) ?_
  intro i ⟨hi, hj⟩; dsimp only at hi hj ⊢; refine Qy (Qy (Qx fun K hK => ?_)); refine Qq J J J (Qq J J J (Q7 J J sFracs.und (List.length_map ..) J (Qw ilss J J J J (Qj (hK _ _ (Qz ?_)))))); clear hK K; refine QK J (fun h => ?_) (fun h => ?_)
  · have e2 : (i : Int).toNat = i := Int.toNat_natCast i
    have hlt : i < os.length := by omega
    have b0 := ho (os.getD i 0) (X1 hlt)
    have b1 : (c.getD i 0).natAbs ≤ 4503599627370496 := by
      rcases Nat.lt_or_ge i c.length with h | h
      · exact hc _ (X1 h)
      · rw [getD_ge h]; decide
    have hbad : 0 < cmpQ (c.getD i 0 : Rat) (os.getD i 0) → covQ os c = false := fun hgt => by
      unfold covQ; rw [List.all_eq_false.mpr ⟨i, List.mem_range.mpr hlt, by rw [decide_eq_true ((cmpQ_flip _ _).1 hgt)]; decide⟩, Bool.and_false]
    have hgood : ¬ 0 < cmpQ (c.getD i 0 : Rat) (os.getD i 0) → ∀ j, j < i + 1 → ¬ cmpQ (os.getD j 0) (c.getD j 0 : Rat) < 0 := fun hng j hj' => by
      rcases Nat.lt_or_ge j i with h3 | h3
      · exact hj j h3
      · have : j = i := by omega
        rw [this]; exact fun h => hng ((cmpQ_flip _ _).2 h)
    have hW := Zn (c.getD i 0) (by omega) (by omega); have i1 := SzQ.int b1; have hC := rFCompare_q (c.getD i 0 : Rat) (os.getD i 0) (by have := i1.n; omega) (by have := i1.d; omega) (by have := b0.n; omega) (by have := b0.d; omega); generalize hci : c.getD i 0 = ci at *; refine QU (Qz (Qy (Q0 (Qy (Qx fun K hK => ?_))))); refine Qv J J J (Qj (hK _ _ (Qz (Qy (Qy ?_))))); clear hK K; refine Qx (fun K hK => ?_); refine Qq J J J (Qq J J J (Q7 J J sInts.und (List.length_map ..) J (Qw ilss J J J J (Qj (hK _ _ (Qz ?_)))))); clear hK K; refine Zw (α := Unit) (fun _ => True) (fun _ => [(0, .ct (intsC c)), (1, .ct (ratsC os)), (5, .ct (intC i)), (6, .ct (intC ci))]) (fun _ => []) (fun _ _ => ?_) (fun KK hN => ?_); rotate_left
    · refine QK J (fun h3 => ?_) (fun h3 => ?_)
      · refine Qx (fun K hK => ?_); refine Qq J J J (Qq J J J (Qh J J J sInts (by omega) (X3 (by omega) (by omega)) J ?_)); refine Xz J J J lInt J (Qv J J J (Qj (hK _ _ ?_))); clear hK K; rw [e2, hci]; skip; exact XV hN () trivial (by exact Qu J ⟨rfl, rfl, rfl, rfl, trivial⟩)
      · have ec : ci = 0 := by rw [← hci]; exact getD_ge (by omega)
        subst ec
        refine QU ?_
        exact XV hN () trivial (by exact Qu J ⟨rfl, rfl, rfl, rfl, trivial⟩)
    clear hci; refine Qy (Xv mixed 12 (.p 0 (.p 2 (.p 3 (.p 4 (.f 5 (.m 1 (.m 6 (.p 7 (.p 8 (.p 9 (.p 10 (.p 11 .done)))))))))))) (by kernel_rfl) (fun K hK => ?_)); refine Qq J J J (Qq J J J (Qq J J J (Qh J J J sFracs (by omega) (Z1 (by omega) (by omega)) J ?_)))
    refine Xd (n := 3) J J J Xy J J ?_
    rw [e2]; skip; refine QQ Zs hW J J J J (QQ Jj hC J J J J (Qq J J J (QY J J J J (QY J J J J (Qv J J J (Qv J J J (Qj (hK _ _ (Qz (Qy ?_)))))))))); clear hK K; refine Qx (fun K hK => ?_); refine Qq J J J (Qw igtr J J J J (Qj (hK _ _ (Qz ?_)))); clear hK K; refine QK J (fun h4 => ?_) (fun h4 => ?_)
    · refine Qy (Qx fun K hK => ?_); refine Qv J J J (Qj (hK _ _ (Qz (Q2 (Qe (QW (QW (Qe (QW ?_))))))))); clear hK K; refine Q1 [_] rfl (QZ J QX) (by rw [hbad h4]; rfl) J
    · refine QU (Qz (Qx fun K hK => ?_)); refine Qq J J J (Qw (iadd (by omega) (by omega)) J J J J ?_); refine Qv J J J (Qj (hK _ _ (Q4 ?_))); clear hK K; refine Qb (i + 1) (by omega) ⟨by omega, hgood h4⟩ (by exact Qu J ⟨rfl, rfl, by simp only [Int.natCast_add]; rfl, trivial⟩)
  · have hi' : i = os.length := by omega
    refine Qr (Qz (Qy (Qx fun K hK => ?_))); refine Qv J J J (Qj (hK _ _ (Qz (Q2 ?_)))); clear hK K
    refine Q1 [_] rfl (QZ J QX) (by
      unfold covQ
      rw [decide_eq_true hle, List.all_eq_true.mpr (fun j hj2 => by rw [decide_eq_false (hj j (by have := List.mem_range.mp hj2; omega))]; rfl)]; rfl) J
theorem gorBounds : InGo Tryz.prog 54 := InGo.of Tryz.func54 (by kernel_rfl) (by kernel_rfl)
set_option maxHeartbeats 4000000 in
theorem rBounds_gen (n : Nat) (rs : List Rw) (c : List Int) (ys : List Fr) (most : Rat) (hv : validR n rs = true) (H : Mul n rs ys) (hlc : c.length ≤ 64) (hc : ∀ y ∈ c, y.natAbs ≤ 4503599627370496) (hm : SzQ most) :
    Ok Tryz.prog 54 [intC n, rowsC rs, intsC c, fracsC ys, ratC most] (boolC (covQ (colsQ rs ys n) c && !decide (cmpQ most (bsQ rs ys) < 0))) := by
  have h1 := rCombine_gen n rs ys hv H; have h2 := rcovers_q (colsQ rs ys n) c (by rw [colsQ_len]; have := (Z3 hv).2.1; omega) hlc H.cols hc; have hb := H.b.2; have h3 := rFCompare_q (bsQ rs ys) most (by have := hb.n; omega) (by have := hb.d; omega) (by have := hm.n; omega) (by have := hm.d; omega); have h4 := rFValid_V _ hm.vf
  have hcm : decide (cmpQ (bsQ rs ys) most ≤ 0) = !decide (cmpQ most (bsQ rs ys) < 0) := by
    by_cases h : cmpQ most (bsQ rs ys) < 0
    · have := (cmpQ_flip (bsQ rs ys) most).2 h; rw [decide_eq_true h, decide_eq_false (by omega)]; rfl
    · have := mt (cmpQ_flip (bsQ rs ys) most).1 h; rw [decide_eq_false h, decide_eq_true (by omega)]; rfl
  generalize colsQ rs ys n = os at *; generalize bsQ rs ys = bs at *
  refine Ok.enter Tryz.func54 J _ Tryz.ntmps54 J ?_
  intro S w; refine Qy (Qx fun K hK => ?_); refine XZ 0 J J J J J J J (Qv J J J (Qj (hK _ _ (Qz (Qy ?_))))); clear hK K; refine Qx (fun K hK => ?_); refine Qq J J J (Qq J J J (Qq J J J (QQ gorCombine h1 J J J J (Qq J J J (QY J J J J (QY J J J J (QY J J J J (Qf 1 J J zvFrac J J J (Qv J J J (Qa 3 J J J J J szFrac J J (Qv J J J (Qj (hK _ _ (Qz (Qy (Qy ?_)))))))))))))))); clear hK K; refine Qx (fun K hK => ?_); refine Qq J J J (Qw ineq J J J J (Qq J J J (Qq J J J (Qq J J J (QQ gorcovers h2 J J J J (Xj J J J (Q6 J J J J (Qq J J J (Zk 32 J (fun h => ?_) (fun h => ?_))))))))))
  · have hcv : covQ os c = false := by simpa using h
    refine Qk J J J (Qk J J J (Qk J J J (Qc J J J J (Qj (hK _ _ (Qz (XU J (Qy ?_)))))))); clear hK K; refine Qx (fun K hK => ?_); refine Qv J J J (Qj (hK _ _ (Qz (Q2 (QW ?_))))); clear hK K; refine Q1 [_] rfl (QZ J QX) (by rw [hcv]; rfl) J
  · have hcv : covQ os c = true := by simpa using h
    refine Qt (n := 3) J J J J J Xy J (QQ gorFValid h4 J J J J (Xj J J J (Q6 J J J J (Qj (hK _ _ (Qz (XY J (QU (Qz (Qy ?_)))))))))); clear hK K; refine Qx (fun K hK => ?_); refine Qt (n := 3) J J J J J Xy J (Qt (n := 3) J J J J J Xy J (QQ Jj h3 J J J J (Qq J J J (QY J J J J (QY J J J J (Qv J J J (Qv J J J (Qj (hK _ _ (Qz (Qy ?_))))))))))); clear hK K; refine Qx (fun K hK => ?_); refine Qq J J J (Qw ileq J J J J (Qv J J J (Qj (hK _ _ (Qz (Q2 ?_)))))); clear hK K; refine Q1 [_] rfl (QZ J QX) (by rw [hcv, ← hcm]; rfl) J
theorem gorRefutes : InGo Tryz.prog 50 := InGo.of Tryz.func50 (by kernel_rfl) (by kernel_rfl)
theorem sgnF_q (q : Rat) : sgnF (ofQ q) = q.num.sign := by
  have e2 : (ofQ q).num = q.num.natAbs := rfl; have e1 : (ofQ q).neg = decide (q.num < 0) := rfl; unfold sgnF; rw [e1, e2]; generalize q.num = z; rcases Int.lt_trichotomy z 0 with h1 | h1 | h1
  · rw [if_neg (by omega), if_pos (decide_eq_true h1), Int.sign_eq_neg_one_of_neg h1]
  · subst h1; rfl
  · rw [if_neg (by omega), if_neg (by rw [decide_eq_true_eq]; omega), Int.sign_eq_one_of_pos h1]
set_option maxHeartbeats 4000000 in
theorem rRefutes_gen (n : Nat) (rs : List Rw) (ys : List Fr) (hv : validR n rs = true) (H : Mul n rs ys) :
    Ok Tryz.prog 50 [intC n, rowsC rs, fracsC ys] (boolC (decide ((bsQ rs ys).num < 0) && covQ (colsQ rs ys n) [])) := by
  have h1 := rCombine_gen n rs ys hv H; have h2 := (rcovers_q (colsQ rs ys n) [] (by rw [colsQ_len]; have := (Z3 hv).2.1; omega) (by simp) H.cols (fun y h => by cases h)).weak (As' := [.ex (.slice none 0 0), _]) ⟨Yd, Xp, trivial⟩; have h3 := Jk (ofQ (bsQ rs ys)); rw [sgnF_q] at h3; have hs : decide ((bsQ rs ys).num.sign < 0) = decide ((bsQ rs ys).num < 0) := decide_eq_decide.2 Int.sign_neg_iff; rw [← hs]; generalize (bsQ rs ys).num.sign = sg0 at *; generalize colsQ rs ys n = os at *
  refine Ok.enter Tryz.func50 J _ Tryz.ntmps50 J ?_
  intro S w; refine Qy (Qx fun K hK => ?_); refine Qv J J J (Qj (hK _ _ (Qz (Qy ?_)))); clear hK K; refine Qx (fun K hK => ?_); refine Qq J J J (Qq J J J (Qq J J J (QQ gorCombine h1 J J J J (Qq J J J (QY J J J J (QY J J J J (QY J J J J (Qf 0 J J zvFrac J J J (Qv J J J (Qa 3 J J J J J szFrac J J (Qv J J J (Qj (hK _ _ (Qz (Qy ?_))))))))))))))); clear hK K; refine Qx (fun K hK => ?_); refine Qq J J J (Qw ieql J J J J (Qq J J J (Qq J J J (QQ gorcovers h2 J J J J (Qc J J J J (Qq J J J (Zk 24 J (fun h => ?_) (fun h => ?_))))))))
  · refine Qt (n := 3) J J J J J Xy J (QQ goSign h3 J J J J (Qw ilss J J J J (Qc J J J J (Qv J J J (Qj (hK _ _ (Qz (Q2 ?_)))))))); clear hK K; refine Q1 [_] rfl (QZ J QX) (by rw [h, Bool.and_true]; rfl) J
  · refine Qk J J J (Qk J J J (Qk J J J (Q6 J J J J (Qv J J J (Qj (hK _ _ (Qz (Q2 ?_)))))))); clear hK K; refine Q1 [_] rfl (QZ J QX) (by rw [h, Bool.and_false]; rfl) J
attribute [local irreducible] OkM
abbrev tEnt (hr : Value) (rows : List (List Rat)) (hb : Value) (bas : List Int) : BL := [(8, .rowx hr 25 1 (rowsR rows)), (9, .rowx hb 3 1 (ints bas))]
def low8 : BL → Bool
  | [] => true
  | (j, _) :: E => Nat.blt j 8 && low8 E
theorem te_sub {hr hb : Value} {rows : List (List Rat)} {bas : List Int} : ∀ {E : BL}, low8 E = true → ∀ i e, bget (tEnt hr rows hb bas) i = some e → bget (E ++ tEnt hr rows hb bas) i = some e
  | [], _, _, _, h => h
  | (j, f) :: E, hE, i, e, h => by
    simp only [low8, Bool.and_eq_true] at hE
    have hj : j < 8 := Nat.le_of_ble_eq_true hE.1
    have hji : j ≠ i := fun e2 => by
      subst e2
      rw [Q3 _ _ (by omega), Q3 _ _ (by omega)] at h
      cases h
    rw [List.cons_append, Q3 _ _ hji]
    exact te_sub hE.2 i e h
theorem gopivot34 : InGo Tryz.prog 81 := InGo.of Tryz.func81 (by kernel_rfl) (by kernel_rfl)
set_option maxHeartbeats 16000000 in
theorem pivot34_ok (n m W : Nat) (rows rows' : List (List Rat)) (goal goal' : List Rat) (bas : List Int) (i j : Nat) (h : Piv W rows rows' goal goal' i j) (hbl : bas.length = rows.length) (ar ab : Option Addr) (lr cr lb cb : Nat) :
    OkM Tryz.prog 81 [.ct (taC n m (.slice ar lr cr) goal (.slice ab lb cb)), .ct (intC i), .ct (intC j)] (tEnt (.slice ar lr cr) rows (.slice ab lb cb) bas) [] (fun _ : Unit => True)
      (fun _ => .ct (taC n m (.slice ar lr cr) goal' (.slice ab lb cb))) (fun _ => tEnt (.slice ar lr cr) rows' (.slice ab lb cb) (bas.set i j)) := by
  have hi := h.hi; have hj := h.hj; have few := h.few; have thin := h.thin; have hwi := h.w i hi; have e2 : (i : Int).toNat = i := Int.toNat_natCast i; have e3 : (j : Int).toNat = j := Int.toNat_natCast j
  have k1 : (i : Int).toNat * 1 = i := by omega
  refine OkM.enter Tryz.func81 J _ Tryz.ntmps81 J (fun i hi => absurd hi (by simp)) ?_
  intro S w ρ0 hbor; refine Qy (Qx fun K hK => ?_); refine XZ 0 J J J J J J J (Qf 1 J J zvTab J J J (Qj (hK _ _ (Qz (Qy ?_))))); clear hK K; refine Qx (fun K hK => ?_); refine QV J J J fG2 J (QJ J J J J J lRat2 J (Qq J J J (Qo 8 rows.length J J J (rowsR_len _) J sRat2 (by omega) (by omega) J ?_))); rw [k1]; refine QJ J J J J (rowsR_at hi) lRat1 J (Q7 J J sFracs.und (List.length_map ..) J (Z5 2 W J J J (by omega) sFracs (by omega) (by omega) J J J ?_)); rw [frR_made, ← upO_zero (fun c => (rows'.getD i []).getD c 0)]; refine Qv J J J (Qj (hK _ _ (Qz (Qy (Qy ?_))))); clear hK K; refine Qx (fun K hK => ?_); refine Qv J J J (Qj (hK _ _ (Qz (Q0 ?_)))); clear hK K
  refine Xq (α := Nat) (fun c => c ≤ W)
    (fun c => [(1, .ct (intC i)), (2, .ct (intC j)), (3, .own 0), (6, .own 1), (7, .own 2), (8, .ct (intC c))])
    (fun c => (2, .row 38 3 (frR (upO (fun c => (rows'.getD i []).getD c 0) W c))) :: (1, .box 102 [.ex (.int .i64 0), .ex (.int .i64 0), .ex (.slice none 0 0), .ex (.slice none 0 0), .ex (.slice none 0 0)]) :: (0, .box 102 (taCs n m (.slice ar lr cr) goal (.slice ab lb cb))) :: tEnt (.slice ar lr cr) rows (.slice ab lb cb) bas) (fun c => W - c) 0 (Nat.zero_le _) (by exact Qu J ⟨rfl, rfl, rfl, rfl, rfl, rfl, trivial⟩) ?_
  intro c hc
  (try dsimp only at hc ⊢)
  refine Qy (Qy (Qx fun K hK => ?_)); refine Qq J J J (Qq J J J (Ops.lenR W J J J (by decide) (by rw [Zz, Jx]) sFracs.und J ?_)); refine Qw ilss J J J J (Qj (hK _ _ (Qz ?_))); clear hK K; refine QK J (fun hcl => ?_) (fun hcl => ?_)
  · have e4 : (c : Int).toNat = c := Int.toNat_natCast c
    have hlt : c < W := by omega
    have eset := upO_set (fun c => (rows'.getD i []).getD c 0) hlt; have hpr := h.pr c hlt; have q0 := h.q i hi _ (X1 (z := (0 : Rat)) (show c < (rows.getD i []).length by omega)); have qp := h.q i hi _ (X1 (z := (0 : Rat)) (show j < (rows.getD i []).length by omega)); have hne := h.ne
    have hlc : (frR (upO (fun c => (rows'.getD i []).getD c 0) W c)).length = W * 3 := by rw [Zz, Jx]
    have hul := Jx (fun c => (rows'.getD i []).getD c 0) W c; rw [hpr] at eset; generalize upO (fun c => (rows'.getD i []).getD c 0) W c = cur at hlc hul eset ⊢; refine QU (Qz (Qy (Q0 (Qy (Qx fun K hK => ?_))))); refine Qq J J J (Qq J J J (QV J J J fG2 J (QJ J J J J J lRat2 J (Qq J J J (Qo 8 rows.length J J J (rowsR_len _) J sRat2 (by omega) (by omega) J ?_))))); rw [k1]; refine QJ J J J J (rowsR_at hi) lRat1 J (Qq J J J (Qh J J J sFracs (by omega) (Z1 (by omega) (by omega)) J ?_))
    refine Xd (n := 3) J J J Xy J J ?_
    rw [e4]
    refine Xu W J J J hlc J sFracs (by omega) (by omega) J ?_
    rw [e4]
    refine stFr J J J J (by omega) szFrac ?_
    have hl2 : (frR (cur.set c (some ((rows.getD i []).getD c 0)))).length = W * 3 := by rw [Zz, List.length_set]; omega
    have hg2 : (cur.set c (some ((rows.getD i []).getD c 0))).getD c none = some ((rows.getD i []).getD c 0) := by
      rw [List.getD_eq_getElem?_getD, List.getElem?_set_self (by omega)]; rfl
    have hc1 : (frR (cur.set c (some ((rows.getD i []).getD c 0))))[c * 3 + 1]? = some (natC (ofQ ((rows.getD i []).getD c 0)).num) := by
      have := el_cell (f := frO) (n := 3) frO_len (l := cur.set c (some ((rows.getD i []).getD c 0))) (i := c) (o := 1) none (by rw [List.length_set]; omega) (by decide); rw [hg2] at this; exact this
    refine Qj (hK _ _ (Qz (Qy ?_))); clear hK K; refine Qx (fun K hK => ?_); refine Qq J J J (Qq J J J (Xu W J J J hl2 J sFracs (by omega) (by omega) J ?_)); rw [e4]; refine Yt J J fF1 J (QJ J J J J hc1 lNat J (Q7 J J sNat.und (List.length_map ..) J (Qw igtr J J J J (Qj (hK _ _ (Qz ?_)))))); clear hK K; refine QK J (fun h0 => ?_) (fun h0 => ?_)
    · have q0n := q0.n; have q0d := q0.d; have qpn := qp.n; have qpd := qp.d; have hD := rFDiv_q ((rows.getD i []).getD c 0) ((rows.getD i []).getD j 0) hne (by omega) (by omega) (by omega) (by omega); skip; refine Xv mixed 19 (.p 0 (.p 1 (.p 2 (.p 3 (.p 4 (.p 6 (.p 8 (.p 11 (.f 5 (.f 7 (.p 9 (.f 10 (.p 12 (.f 13 (.m 14 (.p 15 (.p 16 (.p 17 (.p 18 (.a 19 .done)))))))))))))))))))) (by kernel_rfl) (fun K hK => ?_); refine Qq J J J (Qq J J J (Qq J J J (Qq J J J (Xu W J J J hl2 J sFracs (by omega) (by omega) J ?_)))); rw [e4]; refine QV J J J fG2 J (Qq J J J (Qq J J J (ldE (f := frO) (n := 3) (l := cur.set c (some ((rows.getD i []).getD c 0))) none frO_len J J J J J (by rw [List.length_set]; omega) Xy J ?_))); rw [hg2]; refine QJ J J J J J lRat2 J (Qo 8 rows.length J J J (rowsR_len _) J sRat2 (by omega) (by omega) J ?_); rw [k1]; refine QJ J J J J (rowsR_at hi) lRat1 J (Qh J J J sFracs (by omega) (Z1 (by omega) (by omega)) J ?_)
      refine Xd (n := 3) J J J Xy J J ?_
      rw [e3]; skip; refine QQ gorFDiv hD J J J J (Qq J J J (QY J J J J (QY J J J J (Xu W J J J hl2 J sFracs (by omega) (by omega) J ?_)))); rw [e4]
      refine stFr J J J J (by rw [List.length_set]; omega) szFrac ?_
      rw [List.set_set, eset]; refine Qj (hK _ _ (Qz ?_)); clear hK K; refine Qx (fun K hK => ?_); refine Qq J J J (Qw (iadd (by omega) (by omega)) J J J J ?_); refine Qv J J J (Qj (hK _ _ (Q4 ?_))); clear hK K; refine Qb (c + 1) (by omega) (by omega) (by exact Qu J ⟨rfl, rfl, rfl, rfl, rfl, by simp only [Int.natCast_add]; rfl, trivial⟩)
    · have hz : (rows.getD i []).getD c 0 = 0 := q_zero (by omega)
      have hz2 : (rows.getD i []).getD c 0 / (rows.getD i []).getD j 0 = (rows.getD i []).getD c 0 := by rw [hz, Rat.div_def, Rat.zero_mul]
      rw [hz2] at eset; rw [eset]; refine QU (Qz (Qx fun K hK => ?_)); refine Qq J J J (Qw (iadd (by omega) (by omega)) J J J J ?_); refine Qv J J J (Qj (hK _ _ (Q4 ?_))); clear hK K; refine Qb (c + 1) (by omega) (by omega) (by exact Qu J ⟨rfl, rfl, rfl, rfl, rfl, by simp only [Int.natCast_add]; rfl, trivial⟩)
  have hcW : c = W := by omega
  subst hcW; rw [upO_done, list_of (h.w' i hi) fun _ _ => rfl]; refine Xl 2 _ J (frR_rats _ _) hbor (Qr (Qz (Qy ?_))); refine St.drawQ mixed [9, 11] (.p 0 (.p 2 (.p 3 (.p 5 (.p 6 (.p 7 (.f 1 (.p 8 (.m 4 (.a 9 (.p 10 (.a 11 .done .non)) .non) (.a 9 (.m 4 (.p 10 (.a 11 .done .non)) .non) .non)))))))))) (by kernel_rfl) (fun K hK => ?_); refine (fun (cont : Go.Own.Fin _ [(1, .ct (intC i)), (2, .ct (intC j)), (3, .own 0), (6, .own 1), (7, .ct (ratsC (rows'.getD i [])))] ((1, .box 102 [.ex (.int .i64 0), .ex (.int .i64 0), .ex (.slice none 0 0), .ex (.slice none 0 0), .ex (.slice none 0 0)]) :: (0, .box 102 (taCs n m (.slice ar lr cr) goal (.slice ab lb cb))) :: [(8, .rowx (.slice ar lr cr) 25 1 ((rowsR rows).set i (ratsC (rows'.getD i [])))), (9, .rowx (.slice ab lb cb) 3 1 ((ints bas).set i (intC j)))]) K) => ?_) (hK _ _ ?_); rotate_left
  · clear hK K; rw [rowsR_set, mixR_first hi, show (ints bas).set i (intC j) = ints (bas.set i j) by unfold ints; rw [List.map_set]]; refine Qz (Qy (Qy (Qx fun K hK => ?_))); refine Qv J J J (Qj (hK _ _ (Qz (Q0 ?_)))); clear hK K
    refine Xq (α := Nat) (fun k => k ≤ rows.length)
      (fun k => [(1, .ct (intC i)), (2, .ct (intC j)), (3, .own 0), (6, .own 1), (7, .ct (ratsC (rows'.getD i []))), (9, .ct (intC k))])
      (fun k => (1, .box 102 [.ex (.int .i64 0), .ex (.int .i64 0), .ex (.slice none 0 0), .ex (.slice none 0 0), .ex (.slice none 0 0)]) :: (0, .box 102 (taCs n m (.slice ar lr cr) goal (.slice ab lb cb))) :: tEnt (.slice ar lr cr) (mixR rows rows' i k) (.slice ab lb cb) (bas.set i j)) (fun k => rows.length - k) 0 (Nat.zero_le _) (by exact Qu J ⟨rfl, rfl, rfl, rfl, rfl, rfl, trivial⟩) ?_
    intro k hk
    (try dsimp only at hk ⊢)
    have hml := mixR_len rows rows' i k
    have hms := fun h => mixR_set (rows := rows) (rows' := rows') (i := i) (k := k) h
    have hmk := fun h => mixR_skip (rows := rows) (rows' := rows') (i := i) (k := k) h
    have hma := fun h => mixR_at (rows := rows) (rows' := rows') (i := i) (k := k) (q := k) h
    have hmd := mixR_done (rows := rows) (rows' := rows') (i := i) h.len; refine Qy (Qy (Qx fun K hK => ?_)); refine Qq J J J (QV J J J fG2 J (QJ J J J J J lRat2 J (ZK 8 rows.length J J J (by decide) (by rw [rowsR_len, hml]) sRat2.und J ?_))); refine Qw ilss J J J J (Qj (hK _ _ (Qz ?_))); clear hK K; refine QK J (fun hkl => ?_) (fun hkl => ?_)
    · have e5 : (k : Int).toNat = k := Int.toNat_natCast k
      have k5 : (k : Int).toNat * 1 = k := by omega
      have hlt : k < rows.length := by omega
      have hwk := h.w k hlt; refine QU (Qz (Qy (Q0 (Qy (Qx fun K hK => ?_))))); refine Qq J J J (Qq J J J (Qw ineq J J J J (Qq J J J (Qp 80 J (fun hne => ?_) (fun hne => ?_)))))
      · have hki : k ≠ i := fun e => hne (by rw [e])
        have hat := hma hlt; rw [if_neg (by omega)] at hat
        have hat2 : (rowsR (mixR rows rows' i k))[k]? = some (ratsC (rows.getD k [])) := by
          rw [rowsR_at (by rw [hml]; exact hlt), hat]
        have hrow := h.row hlt hki; have hrow0 := h.row0 hlt hki; have qk := h.q k hlt _ (X1 (z := (0 : Rat)) (show j < (rows.getD k []).length by omega)); have hS := Jk (ofQ ((rows.getD k []).getD j 0)); rw [sgnF_q] at hS; have hl34 := less34_ok (rows.getD k []) (rows'.getD i []) ((rows.getD k []).getD j 0) (by rw [h.w' i hi, hwk]) (by omega) (h.q k hlt) h.q' qk; rw [hrow] at hl34; have hms1 := hms hlt; have hmk1 := hmk hlt; generalize mixR rows rows' i k = mx at *; refine QV J J J fG2 J (QJ J J J J J lRat2 J (Qq J J J (Qo 8 rows.length J J J (by rw [rowsR_len, hml]) J sRat2 (by omega) (by omega) J ?_))); rw [k5]; refine QJ J J J J hat2 lRat1 J (Qq J J J (Qh J J J sFracs (by omega) (Z1 (by omega) (by omega)) J ?_))
        refine Xd (n := 3) J J J Xy J J ?_
        rw [e3]; skip; refine QQ goSign hS J J J J (Qw ineq J J J J (Qc J J J J (Qj (hK _ _ (Qz ?_))))); clear hK K; refine QK J (fun hs => ?_) (fun hs => ?_)
        · skip; refine Xv mixed 19 (.p 0 (.p 2 (.p 3 (.p 5 (.p 8 (.p 10 (.p 13 (.p 16 (.f 1 (.f 4 (.p 6 (.f 7 (.f 9 (.p 11 (.f 12 (.p 14 (.f 15 (.m 17 (.p 18 (.a 19 .done)))))))))))))))))))) (by kernel_rfl) (fun K hK => ?_); refine QV J J J fG2 J (Qq J J J (QV J J J fG2 J (Qq J J J (QV J J J fG2 J (Qq J J J (Qq J J J (Qq J J J (QJ J J J J J lRat2 J (QJ J J J J J lRat2 J (Qo 8 rows.length J J J (by rw [rowsR_len, hml]) J sRat2 (by omega) (by omega) J ?_)))))))))); rw [k5]; refine QJ J J J J hat2 lRat1 J (QJ J J J J J lRat2 J (Qo 8 rows.length J J J (by rw [rowsR_len, hml]) J sRat2 (by omega) (by omega) J ?_)); rw [k5]; refine QJ J J J J hat2 lRat1 J (Qh J J J sFracs (by omega) (Z1 (by omega) (by omega)) J ?_)
          refine Xd (n := 3) J J J Xy J J ?_
          rw [e3]; skip; refine QQ goless34 hl34 J J J J (Qo 8 rows.length J J J (by rw [rowsR_len, hml]) J sRat2 (by omega) (by omega) J ?_); rw [k5]
          have es : (rowsR mx).set k (ratsC (rows'.getD k [])) = rowsR (mixR rows rows' i (k + 1)) := by rw [rowsR_set, hms1]
          refine Qn J J J J J zFracs (by show k < (rowsR mx).length; rw [rowsR_len, hml]; omega) ?_
          refine Qj (hK _ _ (Qz ?_)); clear hK K; refine Qx (fun K hK => ?_); refine Qq J J J (Qw (iadd (by omega) (by omega)) J J J J ?_); refine Qv J J J (Qj (hK _ _ (Q4 ?_))); clear hK K; refine Qb (k + 1) (by omega) (by omega) (by exact Qu (by unfold tEnt; rw [← es]; rfl) ⟨rfl, rfl, rfl, rfl, rfl, by simp only [Int.natCast_add]; rfl, trivial⟩)
        · have hz : (rows.getD k []).getD j 0 = 0 := Rat.num_eq_zero.1 (Int.sign_eq_zero_iff_zero.1 (by omega)); rw [hmk1 (.inr (hrow0 hz))]; refine QU (Qz (Qx fun K hK => ?_)); refine Qq J J J (Qw (iadd (by omega) (by omega)) J J J J ?_); refine Qv J J J (Qj (hK _ _ (Q4 ?_))); clear hK K; refine Qb (k + 1) (by omega) (by omega) (by exact Qu J ⟨rfl, rfl, rfl, rfl, rfl, by simp only [Int.natCast_add]; rfl, trivial⟩)
      · have hki : k = i := by omega
        rw [hmk hlt (.inl hki)]; refine Qk J J J (Qk J J J (Qk J J J (Qk J J J (Qk J J J (Qk J J J (Qk J J J (Qk J J J (Qk J J J (Qk J J J (Q6 J J J J (Qj (hK _ _ (Qz (XY J (QU (Qz ?_)))))))))))))))); clear hK K; refine Qx (fun K hK => ?_); refine Qq J J J (Qw (iadd (by omega) (by omega)) J J J J ?_); refine Qv J J J (Qj (hK _ _ (Q4 ?_))); clear hK K; refine Qb (k + 1) (by omega) (by omega) (by exact Qu J ⟨rfl, rfl, rfl, rfl, rfl, by simp only [Int.natCast_add]; rfl, trivial⟩)
    have hkm : k = rows.length := by omega
    rw [hkm, hmd]; have hS := Jk (ofQ (goal.getD j 0)); rw [sgnF_q] at hS; have hgl := h.g; have hl34 := less34_ok goal (rows'.getD i []) (goal.getD j 0) (by rw [h.w' i hi, hgl]) (by omega) h.qg h.q' (h.qg _ (X1 (z := (0 : Rat)) (by omega))); rw [h.goalr] at hl34; have hg0 := h.goal0; refine Qr (Qz (Qy (Qy (Qx fun K hK => ?_)))); refine QV J J J fG3 J (QJ J J J J J lRat1 J (Qq J J J (Qh J J J sFracs (by omega) (Z1 (by omega) (by omega)) J ?_)))
    refine Xd (n := 3) J J J Xy J J ?_
    rw [e3]; skip; refine QQ goSign hS J J J J (Qw ineq J J J J (Qj (hK _ _ (Qz ?_)))); clear hK K; refine QK J (fun hs => ?_) (fun hs => ?_)
    · skip; refine Xv mixed 10 (.p 0 (.p 2 (.p 4 (.p 7 (.f 1 (.f 3 (.p 5 (.f 6 (.m 8 (.p 9 (.a 10 .done))))))))))) (by kernel_rfl) (fun K hK => ?_); refine QV J J J fG3 J (QV J J J fG3 J (Qq J J J (Qq J J J (QJ J J J J J lRat1 J (QJ J J J J J lRat1 J (Qh J J J sFracs (by omega) (Z1 (by omega) (by omega)) J ?_))))))
      refine Xd (n := 3) J J J Xy J J ?_
      rw [e3]; skip; refine QQ goless34 hl34 J J J J (QV J J J fG3 J (Qn J J J J J zFracs (Nat.le_of_ble_eq_true J) (Qj (hK _ _ (Qz (Qy ?_)))))); clear hK K; refine Qx (fun K hK => ?_); refine Qt (n := 5) J J J J J lTab J (Qa 5 J J J J J szTab5 J J (Qj (hK _ _ (Qz (Q2 ?_))))); clear hK K; refine YK () [_] rfl (Qd (n := 5) J J lTab J QX) J (te_sub (E := [(1, _), (0, _)]) J) (fun i hi => absurd hi (by simp)) trivial
    · have hz : goal.getD j 0 = 0 := Rat.num_eq_zero.1 (Int.sign_eq_zero_iff_zero.1 (by omega)); rw [← hg0 hz]; refine QU (Qz (Qy (Qx fun K hK => ?_))); refine Qt (n := 5) J J J J J lTab J (Qa 5 J J J J J szTab5 J J (Qj (hK _ _ (Qz (Q2 ?_))))); clear hK K; refine YK () [_] rfl (Qd (n := 5) J J lTab J QX) J (te_sub (E := [(1, _), (0, _)]) J) (fun i hi => absurd hi (by simp)) trivial
  clear hK; refine Qm (QV J J J fG2 J (Qj ?_)); refine Qm (Qq J J J (Qj ?_)); refine Qm (QV J J J fG4 J (Qj ?_)); refine Qm (Qq J J J (Qj ?_)); refine Qm (Qq J J J (Qj ?_)); refine Qm (Qq J J J (Qj ?_)); refine Fin.qf (QJ J J J J J lRat2 J (Qj ?_)); refine Qm (Qo 8 rows.length J J J (rowsR_len _) J sRat2 (by omega) (by omega) J (Qj ?_)); rw [k1]
  refine X5 ?_ ?_
  · refine QJ J J J J J lInts J (Qj ?_); refine Xx (Qn J J J J J zFracs (by show i < (rowsR rows).length; rw [rowsR_len]; omega) (Qj ?_)) Q8; refine Qm (Qo 9 bas.length J J J (by simp [ints]) J sInts (by omega) (by omega) J (Qj ?_)); rw [k1]; refine Xx (Qn J J J J J zInt (by show i < (ints bas).length; simp [ints]; omega) (Qj ?_)) Q8; exact X4 (Zv cont ⟨rfl, rfl, rfl, rfl, rfl, trivial⟩)
  · refine Xx (Qn J J J J J zFracs (by show i < (rowsR rows).length; rw [rowsR_len]; omega) (Qj ?_)) Q8
    refine X5 ?_ Q8
    refine QJ J J J J J lInts J (Qj ?_); refine Qm (Qo 9 bas.length J J J (by simp [ints]) J sInts (by omega) (by omega) J (Qj ?_)); rw [k1]; refine Xx (Qn J J J J J zInt (by show i < (ints bas).length; simp [ints]; omega) (Qj ?_)) Q8; exact X4 (Zv cont ⟨rfl, rfl, rfl, rfl, rfl, trivial⟩)
theorem low8_lt : ∀ {E : BL} {j : Nat} {e : Ent}, low8 E = true → bget E j = some e → j < 8
  | (i, f) :: E, j, e, hE, h => by
    simp only [low8, Bool.and_eq_true] at hE
    by_cases hij : i = j
    · subst hij; exact Nat.le_of_ble_eq_true hE.1
    · rw [Q3 _ _ hij] at h; exact low8_lt hE.2 h
theorem te_none {hr hb : Value} {rows : List (List Rat)} {bas : List Int} {j : Nat} (h : j < 8) : bget (tEnt hr rows hb bas) j = none := by
  rw [Q3 _ _ (by omega), Q3 _ _ (by omega)]; rfl
theorem te_swap {E : BL} (hE : low8 E = true) (hr hb : Value) (rows : List (List Rat)) (bas : List Int) (j : Nat) : bget (E ++ tEnt hr rows hb bas) j = bget (tEnt hr rows hb bas ++ E) j := by
  rw [Zj, Zj]
  cases h : bget E j with
  | none => cases bget (tEnt hr rows hb bas) j <;> rfl
  | some e => rw [te_none (low8_lt hE h)]; rfl
section
variable {X : Ctx} {L : AL} {B : BL} {ops : Array Oper} {K : Act → World → Prop} {r : Pl} {k : Kd}
  {d : Nat} {t t2 t' : TypeId} {pos : String} {af : Array Edge} {g : Option (Nat × Bool)}
theorem YZ {f : FuncId} {args : List Operand} {tys : Array TypeId} {As : List Sl} {hr hb : Value} {rows : List (List Rat)} {bas : List Int} {α : Type} {J : α → Prop} {R : α → CT} {rows' : α → List (List Rat)} {bas' : α → List Int} (E : BL) (hgo : InGo X.P f) (hok : OkM X.P f As (tEnt hr rows hb bas) [] J (fun q => .ct (R q)) (fun q => tEnt hr (rows' q) hb (bas' q))) (hg : gd ops L g = some true) (hargs : evS L args = some As) (hn : Nat.blt d X.n = true)
    (hbor : ∀ gb, X.bor gb → X.S0 gb) (hB : B = E ++ tEnt hr rows hb bas) (hE : low8 E = true) (hfix : X.fix = [])
    (h : ∀ q, J q → Ops X ops r ((d, .ct (R q)) :: keepL (fun j => Nat.blt j 8) L) (E ++ tEnt hr (rows' q) hb (bas' q)) K) : Ops X ops (.cons ⟨some d, .call { callee := .value (.func f), args := args.toArray, argTypes := tys }, t, pos, af, g⟩ .any r) L B K := by
  subst hB; refine Ops.callM E (fun j => Nat.blt j 8) hgo hok hg hargs hn hbor (te_swap hE hr hb rows bas) (fun j hj => ?_) (fun j hj => .inr fun q => te_none (Nat.le_of_ble_eq_true hj)) (fun p hp => by rw [hfix] at hp; cases hp) (fun q j h => ?_) (fun q hq => ?_)
  · obtain ⟨e, he⟩ := Option.isSome_iff_exists.1 hj; have := low8_lt hE he; exact ⟨te_none this, fun q => te_none this⟩
  · rcases h with h | ⟨_, h⟩ <;> cases h
  · exact Ops.reB (fun j => te_swap hE hr hb (rows' q) (bas' q) j) (h q hq)
end
theorem div_lens {p q : Rat} (hq : q ≠ 0) : (limbs (ofQ (p / q)).num).length ≤ (limbs (ofQ p).num).length + (limbs (ofQ q).den).length ∧ (limbs (ofQ (p / q)).den).length ≤ (limbs (ofQ p).den).length + (limbs (ofQ q).num).length := by
  have hn : 0 < (ofQ q).num := by
    show 0 < q.num.natAbs
    have : q.num ≠ 0 := fun e => hq (Rat.num_eq_zero.1 e)
    omega
  have h := redF_mul (ofQ p) ⟨(ofQ q).neg, (ofQ q).den, (ofQ q).num⟩ (ZX p) hn; rw [Yw, qv_inv hq, ← Rat.div_def] at h; rw [← h]; have h2 := redF_den ((ofQ p).neg != (ofQ q).neg) ((ofQ p).num * (ofQ q).den) ((ofQ p).den * (ofQ q).num) (Nat.mul_pos (ZX p) hn); exact ⟨div_len X7, Nat.le_trans (XW h2.2) X7⟩
structure TSt where
  rows : List (List Rat)
  goal : List Rat
  bas : List Int
def TSt.at (X : TSt) (i j : Nat) : Rat := (X.rows.getD i []).getD j 0
structure Tok (W : Nat) (X : TSt) : Prop where
  few : X.rows.length ≤ 100
  thin : W ≤ 200
  w : ∀ k, k < X.rows.length → (X.rows.getD k []).length = W
  g : X.goal.length = W
  b : X.bas.length = X.rows.length
  q : ∀ k, k < X.rows.length → ∀ x ∈ X.rows.getD k [], Q9 x
  qg : ∀ x ∈ X.goal, Q9 x
def ratR (X : TSt) (j e i : Nat) : Rat := X.at i e / X.at i j
def levR (X : TSt) (j e : Nat) : Nat → Int
  | 0 => -1
  | i + 1 => if ¬ 0 < (X.at i j).num then levR X j e i else if levR X j e i < 0 then i else
      if cmpQ (ratR X j e i) (ratR X j e (levR X j e i).toNat) < 0 ∨ (cmpQ (ratR X j e i) (ratR X j e (levR X j e i).toNat) = 0 ∧ X.bas.getD i 0 < X.bas.getD (levR X j e i).toNat 0) then i else levR X j e i
theorem levR_bd (X : TSt) (j e : Nat) : ∀ i, -1 ≤ levR X j e i ∧ levR X j e i < i ∧ (0 ≤ levR X j e i → 0 < (X.at (levR X j e i).toNat j).num)
  | 0 => by simp [levR]
  | i + 1 => by
    have ih := levR_bd X j e i
    simp only [levR]
    split
    · exact ⟨ih.1, by omega, ih.2.2⟩
    · rename_i h
      have h : 0 < (X.at i j).num := Classical.not_not.1 h
      split
      · exact ⟨by omega, by omega, fun _ => by rw [Int.toNat_natCast]; exact h⟩
      · split
        · exact ⟨by omega, by omega, fun _ => by rw [Int.toNat_natCast]; exact h⟩
        · exact ⟨ih.1, by omega, ih.2.2⟩
structure Ent1 (X : TSt) (C e : Nat) : Prop where
  lt : e < C
  neg : (X.goal.getD e 0).num < 0
  least : ∀ j, j < e → ¬ (X.goal.getD j 0).num < 0
theorem Ent1.uniq {X : TSt} {C e e' : Nat} (h : Ent1 X C e) (h' : Ent1 X C e') : e = e' := by
  rcases Nat.lt_trichotomy e e' with h1 | h1 | h1
  · exact absurd h.neg (h'.least e h1)
  · exact h1
  · exact absurd h'.neg (h.least e' h1)
def ImpRun (W C en : Nat) (F : TSt) (s : Int) : Nat → TSt → Prop
  | 0, X => Tok W X ∧ X = F ∧ ((s = -1 ∧ ∀ j, j < C → ¬ (X.goal.getD j 0).num < 0) ∨ ∃ e : Nat, s = e ∧ Ent1 X C e ∧ levR X e en X.rows.length < 0)
  | k + 1, X => Tok W X ∧ ∃ (e : Nat) (X' : TSt), Ent1 X C e ∧ 0 ≤ levR X e en X.rows.length ∧ Piv W X.rows X'.rows X.goal X'.goal (levR X e en X.rows.length).toNat e ∧ X'.bas = X.bas.set (levR X e en X.rows.length).toNat e ∧ ImpRun W C en F s k X'
theorem ImpRun.none {W C en : Nat} {F : TSt} {s : Int} {k : Nat} {X : TSt} (h : ImpRun W C en F s k X) (hn : ∀ j, j < C → ¬ (X.goal.getD j 0).num < 0) : X = F ∧ s = -1 := by
  cases k with
  | zero =>
    obtain ⟨_, rfl, ⟨rfl, _⟩ | ⟨e, _, he, _⟩⟩ := h
    · exact ⟨rfl, rfl⟩
    · exact absurd he.neg (hn e he.lt)
  | succ k =>
    obtain ⟨_, e, X', he, _⟩ := h; exact absurd he.neg (hn e he.lt)
theorem ImpRun.some {W C en : Nat} {F : TSt} {s : Int} {k : Nat} {X : TSt} (h : ImpRun W C en F s k X) {e : Nat} (he : Ent1 X C e) :
    (levR X e en X.rows.length < 0 → X = F ∧ s = e) ∧ (0 ≤ levR X e en X.rows.length → ∃ k' X', k = k' + 1 ∧ Piv W X.rows X'.rows X.goal X'.goal (levR X e en X.rows.length).toNat e ∧ X'.bas = X.bas.set (levR X e en X.rows.length).toNat e ∧ ImpRun W C en F s k' X') := by
  cases k with
  | zero =>
    obtain ⟨_, rfl, ⟨rfl, hn⟩ | ⟨e', rfl, he', hl⟩⟩ := h
    · exact absurd he.neg (hn e he.lt)
    · obtain rfl := he.uniq he'; exact ⟨fun _ => ⟨rfl, rfl⟩, fun h0 => by omega⟩
  | succ k =>
    obtain ⟨_, e', X', he', hl, h1, h2, h3⟩ := h; obtain rfl := he.uniq he'; exact ⟨fun h0 => by omega, fun _ => ⟨k, X', rfl, h1, h2, h3⟩⟩
theorem ImpRun.tok {W C en : Nat} {F : TSt} {s : Int} {k : Nat} {X : TSt} (h : ImpRun W C en F s k X) : Tok W X := by
  cases k with
  | zero => exact h.1
  | succ k => exact h.1
theorem goimprove34 : InGo Tryz.prog 82 := InGo.of Tryz.func82 (by kernel_rfl) (by kernel_rfl)
def bstC (X : TSt) (j e : Nat) (a : Int) : List CT := if a < 0 then [.ex (.bool false), .ex (.slice none 0 0), .ex (.slice none 0 0)] else frCs (ofQ (ratR X j e a.toNat))
set_option maxHeartbeats 16000000 in
theorem improve34_ok (n m W C : Nat) (X0 F : TSt) (s : Int) (k0 : Nat) (hR : ImpRun W C (n + m + 1) F s k0 X0) (hW : W = n + m + 2) (hC : C ≤ W) (ar ab : Option Addr) (lr cr lb cb : Nat) :
    OkM Tryz.prog 82 [.ct (taC n m (.slice ar lr cr) X0.goal (.slice ab lb cb)), .ct (intC C)] (tEnt (.slice ar lr cr) X0.rows (.slice ab lb cb) X0.bas) [] (fun _ : Unit => True)
      (fun _ => .ct (.fr (tupT [taC n m (.slice ar lr cr) F.goal (.slice ab lb cb), intC s]))) (fun _ => tEnt (.slice ar lr cr) F.rows (.slice ab lb cb) F.bas) := by
  refine OkM.enter Tryz.func82 J _ Tryz.ntmps82 J (fun i hi => absurd hi (by simp)) ?_
  intro S w ρ0 hbor; refine Qy (Qx fun K hK => ?_); refine XZ 0 J J J J J J J (Qf 1 J J zvTab J J J (Qv J J J (Qj (hK _ _ (Qz (Q0 ?_)))))); clear hK K
  refine Xq (α := Nat × TSt) (fun x => ImpRun W C (n + m + 1) F s x.1 x.2)
    (fun _ => [(1, .ct (intC C)), (2, .own 0), (4, .own 1)])
    (fun x => (1, .box 102 [.ex (.int .i64 0), .ex (.int .i64 0), .ex (.slice none 0 0), .ex (.slice none 0 0), .ex (.slice none 0 0)]) :: (0, .box 102 (taCs n m (.slice ar lr cr) x.2.goal (.slice ab lb cb))) :: tEnt (.slice ar lr cr) x.2.rows (.slice ab lb cb) x.2.bas) (fun x => x.1) (k0, X0) hR (by exact Qu J ⟨rfl, rfl, rfl, trivial⟩) ?_
  rintro ⟨k, X⟩ hk
  dsimp only at hk ⊢; have hT := hk.tok; have few := hT.few; have thin := hT.thin; have hg := hT.g; refine Q0 (Qy (Qx (fun K hK => ?_))); refine Qv J J J (Qj (hK _ _ ?_)); clear hK K; refine Qz (Qy ?_)
  refine Zw (α := Nat) (fun e => (e = C ∧ ∀ j, j < C → ¬ (X.goal.getD j 0).num < 0) ∨ Ent1 X C e) (fun e => [(1, .ct (intC C)), (2, .own 0), (4, .own 1), (6, .ct (intC e))])
    (fun _ => (1, .box 102 [.ex (.int .i64 0), .ex (.int .i64 0), .ex (.slice none 0 0), .ex (.slice none 0 0), .ex (.slice none 0 0)]) :: (0, .box 102 (taCs n m (.slice ar lr cr) X.goal (.slice ab lb cb))) :: tEnt (.slice ar lr cr) X.rows (.slice ab lb cb) X.bas) (fun e he => ?_) (fun KK hN => ?_)
  rotate_left
  · refine Q0 ?_
    refine Xq (α := Nat) (fun j => j ≤ C ∧ ∀ q, q < j → ¬ (X.goal.getD q 0).num < 0)
      (fun j => [(1, .ct (intC C)), (2, .own 0), (4, .own 1), (6, .ct (intC j))])
      (fun _ => (1, .box 102 [.ex (.int .i64 0), .ex (.int .i64 0), .ex (.slice none 0 0), .ex (.slice none 0 0), .ex (.slice none 0 0)]) :: (0, .box 102 (taCs n m (.slice ar lr cr) X.goal (.slice ab lb cb))) :: tEnt (.slice ar lr cr) X.rows (.slice ab lb cb) X.bas) (fun j => C - j) 0 ⟨Nat.zero_le _, fun q h => absurd h (Nat.not_lt_zero q)⟩ (by exact Qu J ⟨rfl, rfl, rfl, rfl, trivial⟩) ?_
    intro j ⟨hj, hjl⟩
    (try dsimp only at hj hjl ⊢)
    have e2 : (j : Int).toNat = j := Int.toNat_natCast j; have hS := Jk (ofQ (X.goal.getD j 0)); rw [sgnF_q] at hS; refine Qy (Qy (Qx fun K hK => ?_)); refine Qq J J J (Qq J J J (Qw ilss J J J J (Qq J J J (Qp 17 J (fun hlt => ?_) (fun hlt => ?_)))))
    · refine QV J J J fG3 J (QJ J J J J J lRat1 J (Qq J J J (Qh J J J sFracs (by omega) (Z1 (by omega) (by omega)) J ?_)))
      refine Xd (n := 3) J J J Xy J J ?_
      rw [e2]; skip; refine QQ goSign hS J J J J (Qw igeq J J J J (Qc J J J J (Qj (hK _ _ (Qz ?_))))); clear hK K; refine QK J (fun hs => ?_) (fun hs => ?_)
      · refine QU (Qz (Q0 (Qx fun K hK => ?_))); refine Qq J J J (Qw (iadd (by omega) (by omega)) J J J J ?_); refine Qv J J J (Qj (hK _ _ (X6 (Q4 ?_)))); clear hK K; refine Qb (j + 1) (by omega) ⟨by omega, fun q hq => ?_⟩ (by exact Qu J ⟨rfl, rfl, rfl, by simp only [Int.natCast_add]; rfl, trivial⟩); rcases Nat.lt_or_ge q j with h3 | h3
        · exact hjl q h3
        · have : q = j := by omega
          subst this
          exact fun h4 => by have := Int.sign_neg_iff.2 h4; omega
      · refine Qr (Zy (Zy (Yl ?_))); exact XV hN j (.inr ⟨by omega, Int.sign_neg_iff.1 (by omega), hjl⟩) (by exact Qu J ⟨rfl, rfl, rfl, rfl, trivial⟩)
    · refine Qk J J J (Qk J J J (Qk J J J (Qk J J J (Qk J J J (Qk J J J (Qk J J J (Q6 J J J J (Qj (hK _ _ (Qz (XY J (Qr (Zy (Zy (Yl ?_))))))))))))))); clear hK K
      have hjC : j = C := by omega
      exact XV hN j (.inl ⟨hjC, fun q hq => hjl q (by omega)⟩) (by exact Qu J ⟨rfl, rfl, rfl, rfl, trivial⟩)
  rcases he with ⟨rfl, hn⟩ | he
  · obtain ⟨rfl, rfl⟩ := hk.none hn; refine Qy (Qy (Qx fun K hK => ?_)); refine Qq J J J (Qq J J J (Qw ieql J J J J (Qj (hK _ _ (Qz ?_))))); clear hK K; refine QK J (fun _ => ?_) (fun h => absurd J h); refine Qy (Qx fun K hK => ?_); refine Qt (n := 5) J J J J J lTab J (Qa 5 J J J J J szTab5 J J (Qv J J J (Qj (hK _ _ (Qz (Q2 (QW (Qe (QW (Qe ?_)))))))))); clear hK K; refine YK () [_, _] rfl (Qd (n := 5) J J lTab J (QZ J QX)) J (te_sub (E := [(1, _), (0, _)]) J) (fun i hi => absurd hi (by simp)) trivial
  · have heC := he.lt; refine Qy (Qy (Qx fun K hK => ?_)); refine Qq J J J (Qq J J J (Qw ieql J J J J (Qj (hK _ _ (Qz ?_))))); clear hK K; refine QK J (fun h => absurd h (by omega)) (fun _ => ?_); refine QU (Qz (Qy (Qx fun K hK => ?_))); refine Qv J J J (Qj (hK _ _ (Qz (Qy ?_)))); clear hK K; refine Qx (fun K hK => ?_); refine Qf 2 J J zvFrac J J J (Qj (hK _ _ (Qz (Qy ?_)))); clear hK K; refine Qx (fun K hK => ?_); refine QV J J J fG0 J (QJ J J J J J lInt J (QV J J J fG1 J (QJ J J J J J lInt J (Qw (iadd (by omega) (by omega)) J J J J ?_))))
    refine Qw (iadd (by omega) (by omega)) J J J J ?_
    refine Qv J J J (Qj (hK _ _ (Qz (Qy (Qy ?_))))); clear hK K; refine Qx (fun K hK => ?_); refine Qv J J J (Qj (hK _ _ (Qz (Q0 ?_)))); clear hK K; have hsome := hk.some he
    refine Xq (α := Nat) (fun i => i ≤ X.rows.length)
      (fun i => [(1, .ct (intC C)), (2, .own 0), (4, .own 1), (6, .ct (intC e)), (7, .ct (intC (levR X e (n + m + 1) i))), (8, .own 2), (9, .ct (intC ((n : Int) + m + 1))), (10, .ct (intC i))])
      (fun i => (2, .box 38 (bstC X e (n + m + 1) (levR X e (n + m + 1) i))) :: (1, .box 102 [.ex (.int .i64 0), .ex (.int .i64 0), .ex (.slice none 0 0), .ex (.slice none 0 0), .ex (.slice none 0 0)]) :: (0, .box 102 (taCs n m (.slice ar lr cr) X.goal (.slice ab lb cb))) :: tEnt (.slice ar lr cr) X.rows (.slice ab lb cb) X.bas) (fun i => X.rows.length - i) 0 (Nat.zero_le _) (by exact Qu J ⟨rfl, rfl, rfl, rfl, rfl, rfl, rfl, rfl, trivial⟩) ?_
    intro i hi
    (try dsimp only at hi ⊢)
    have hlb := levR_bd X e (n + m + 1) i
    have hls : levR X e (n + m + 1) (i + 1) = if ¬ 0 < (X.at i e).num then levR X e (n + m + 1) i else if levR X e (n + m + 1) i < 0 then i else
      if cmpQ (ratR X e (n + m + 1) i) (ratR X e (n + m + 1) (levR X e (n + m + 1) i).toNat) < 0 ∨ (cmpQ (ratR X e (n + m + 1) i) (ratR X e (n + m + 1) (levR X e (n + m + 1) i).toNat) = 0 ∧ X.bas.getD i 0 < X.bas.getD (levR X e (n + m + 1) i).toNat 0) then i else levR X e (n + m + 1) i := rfl
    refine Qy (Qy (Qx fun K hK => ?_)); refine Qq J J J (QV J J J fG2 J (QJ J J J J J lRat2 J (ZK 8 X.rows.length J J J (by decide) (rowsR_len _) sRat2.und J ?_))); refine Qw ilss J J J J (Qj (hK _ _ (Qz ?_))); clear hK K; refine QK J (fun hil => ?_) (fun hil => ?_)
    · have e2 : (i : Int).toNat = i := Int.toNat_natCast i
      have k2 : (i : Int).toNat * 1 = i := by omega
      have e3 : (e : Int).toNat = e := Int.toNat_natCast e
      have e4 : ((n : Int) + m + 1).toNat = n + m + 1 := by omega
      have hlt : i < X.rows.length := by omega
      have hwi := hT.w i hlt; have hat : X.at i e = (X.rows.getD i []).getD e 0 := rfl; have hS := Jk (ofQ (X.at i e)); rw [sgnF_q] at hS; have qa := hT.q i hlt _ (X1 (z := (0 : Rat)) (show e < (X.rows.getD i []).length by omega)); have qb := hT.q i hlt _ (X1 (z := (0 : Rat)) (show n + m + 1 < (X.rows.getD i []).length by omega)); refine QU (Qz (Qy (Q0 (Qy (Qy (Qx fun K hK => ?_)))))); refine QV J J J fG2 J (QJ J J J J J lRat2 J (Qq J J J (Qo 8 X.rows.length J J J (rowsR_len _) J sRat2 (by omega) (by omega) J ?_))); rw [k2]; refine QJ J J J J (rowsR_at hlt) lRat1 J (Qq J J J (Qh J J J sFracs (by omega) (Z1 (by omega) (by omega)) J ?_))
      refine Xd (n := 3) J J J Xy J J ?_
      rw [e3, ← hat]; skip; refine QQ goSign hS J J J J (Qw ileq J J J J (Qj (hK _ _ (Qz ?_)))); clear hK K; refine QK J (fun hs => ?_) (fun hs => ?_)
      · have hn : ¬ 0 < (X.at i e).num := fun h => by have := Int.sign_pos_iff.2 h; omega
        rw [if_pos hn] at hls; rw [← hls]; refine Qr (Qz (Qx fun K hK => ?_)); refine Qq J J J (Qw (iadd (by omega) (by omega)) J J J J ?_); refine Qv J J J (Qj (hK _ _ (Q4 ?_))); clear hK K; refine Qb (i + 1) (by omega) (by omega) (by exact Qu J ⟨rfl, rfl, rfl, rfl, rfl, rfl, rfl, by simp only [Int.natCast_add]; rfl, trivial⟩)
      · have hp : 0 < (X.at i e).num := Int.sign_pos_iff.1 (by omega)
        have hne : X.at i e ≠ 0 := fun h => by rw [h] at hp; exact absurd hp (by decide)
        rw [if_neg (fun h => h hp)] at hls; have qan := qa.n; have qad := qa.d; have qbn := qb.n; have qbd := qb.d; have hD := rFDiv_q ((X.rows.getD i []).getD (n + m + 1) 0) ((X.rows.getD i []).getD e 0) hne (by omega) (by omega) (by omega) (by omega); have hrr : (X.rows.getD i []).getD (n + m + 1) 0 / (X.rows.getD i []).getD e 0 = ratR X e (n + m + 1) i := rfl; rw [hrr] at hD; have dl := div_lens (p := (X.rows.getD i []).getD (n + m + 1) 0) (q := (X.rows.getD i []).getD e 0) hne; rw [hrr] at dl; refine QU (Qz (Qy ?_))
        refine Zw (α := Unit) (fun _ => True) (fun _ => [(1, .ct (intC C)), (2, .own 0), (4, .own 1), (6, .ct (intC e)), (7, .ct (intC (levR X e (n + m + 1) i))), (8, .own 2), (9, .ct (intC ((n : Int) + m + 1))), (10, .ct (intC i)), (11, .own 3)])
          (fun _ => (3, .box 38 (frCs (ofQ (ratR X e (n + m + 1) i)))) :: (2, .box 38 (bstC X e (n + m + 1) (levR X e (n + m + 1) i))) :: (1, .box 102 [.ex (.int .i64 0), .ex (.int .i64 0), .ex (.slice none 0 0), .ex (.slice none 0 0), .ex (.slice none 0 0)]) :: (0, .box 102 (taCs n m (.slice ar lr cr) X.goal (.slice ab lb cb))) :: tEnt (.slice ar lr cr) X.rows (.slice ab lb cb) X.bas) (fun _ _ => ?_) (fun KK hN => ?_)
        rotate_left
        · skip; refine Xv mixed 21 (.p 0 (.p 2 (.p 5 (.p 8 (.p 10 (.p 13 (.f 1 (.p 3 (.f 4 (.p 6 (.f 7 (.f 9 (.p 11 (.f 12 (.p 14 (.f 15 (.fork 16 (.p 17 (.p 18 (.p 19 (.m 20 (.a 21 (.p 22 .done)))))) 20 (.m 16 (.p 17 (.p 18 (.p 19 (.a 21 (.p 22 .done))))))))))))))))))))))) (by kernel_rfl) (fun K hK => ?_); refine (fun (cont : Go.Own.Fin _ [(1, .ct (intC C)), (2, .own 0), (4, .own 1), (6, .ct (intC e)), (7, .ct (intC (levR X e (n + m + 1) i))), (8, .own 2), (9, .ct (intC ((n : Int) + m + 1))), (10, .ct (intC i)), (11, .own 3)] ((3, .box 38 (frCs (ofQ (ratR X e (n + m + 1) i)))) :: (2, .box 38 (bstC X e (n + m + 1) (levR X e (n + m + 1) i))) :: (1, .box 102 [.ex (.int .i64 0), .ex (.int .i64 0), .ex (.slice none 0 0), .ex (.slice none 0 0), .ex (.slice none 0 0)]) :: (0, .box 102 (taCs n m (.slice ar lr cr) X.goal (.slice ab lb cb))) :: tEnt (.slice ar lr cr) X.rows (.slice ab lb cb) X.bas) K) => ?_) (hK _ _ ?_); rotate_left
          · clear hK K; exact XV hN () trivial (by exact Qu J ⟨rfl, rfl, rfl, rfl, rfl, rfl, rfl, rfl, rfl, trivial⟩)
          clear hK; refine QV J J J fG2 J (Qq J J J (Qq J J J (QV J J J fG2 J (Qq J J J (Qq J J J (QJ J J J J J lRat2 J (Qo 8 X.rows.length J J J (rowsR_len _) J sRat2 (by omega) (by omega) J ?_))))))); rw [k2]; refine QJ J J J J (rowsR_at hlt) lRat1 J (Qh J J J sFracs (by omega) (Z1 (by omega) (by omega)) J ?_); refine Xd (n := 3) J J J Xy J J (QJ J J J J J lRat2 J ?_); rw [e4]; skip
          refine Qo 8 X.rows.length J J J (rowsR_len _) J sRat2 (by omega) (by omega) J ?_
          rw [k2]; refine QJ J J J J (rowsR_at hlt) lRat1 J (Qh J J J sFracs (by omega) (Z1 (by omega) (by omega)) J ?_)
          refine Xd (n := 3) J J J Xy J J ?_
          rw [e3]; skip
          refine Ops.fork ?_ ?_
          · refine QQ gorFDiv hD J J J J (Qq J J J (QY J J J J (QY J J J J (Qf 3 J J zvFrac J J J (Qa 3 J J J J J szFrac J J (Qv J J J ?_)))))); exact Qj (Zv cont ⟨rfl, rfl, rfl, rfl, rfl, rfl, rfl, rfl, rfl, trivial⟩)
          · refine Qf 3 J J zvFrac J J J (QQ gorFDiv hD J J J J (Qq J J J (QY J J J J (QY J J J J (Qa 3 J J J J J szFrac J J (Qv J J J ?_)))))); exact Qj (Zv cont ⟨rfl, rfl, rfl, rfl, rfl, rfl, rfl, rfl, rfl, trivial⟩)
        have hbi : bstC X e (n + m + 1) (i : Int) = frCs (ofQ (ratR X e (n + m + 1) i)) := by unfold bstC; rw [if_neg (by omega), Int.toNat_natCast]
        clear hD hS; refine Qy (Qx fun K hK => ?_); refine Qv J J J (Qj (hK _ _ (Qz (Qy (Qy ?_))))); clear hK K; refine Qx (fun K hK => ?_); refine Qq J J J (Qw igeq J J J J (Qj (hK _ _ (Qz ?_)))); clear hK K; refine QK J (fun ha => ?_) (fun ha => ?_)
        · rw [if_neg (by omega)] at hls
          have hbl : bstC X e (n + m + 1) (levR X e (n + m + 1) i) = frCs (ofQ (ratR X e (n + m + 1) (levR X e (n + m + 1) i).toNat)) := by unfold bstC; rw [if_neg (by omega)]
          have hll := hlb.2.1; have hpl := hlb.2.2 (by omega); obtain ⟨l, hl⟩ : ∃ l : Nat, levR X e (n + m + 1) i = l := ⟨(levR X e (n + m + 1) i).toNat, by omega⟩; rw [hl] at hls hbl hll hpl; rw [Int.toNat_natCast] at hls hbl hpl
          have hlm : l < X.rows.length := by omega
          have hnl : X.at l e ≠ 0 := fun h => by rw [h] at hpl; exact absurd hpl (by decide)
          have hwl := hT.w l hlm; have ql := hT.q l hlm _ (X1 (z := (0 : Rat)) (show e < (X.rows.getD l []).length by omega)); have qm := hT.q l hlm _ (X1 (z := (0 : Rat)) (show n + m + 1 < (X.rows.getD l []).length by omega)); have dl2 := div_lens (p := (X.rows.getD l []).getD (n + m + 1) 0) (q := (X.rows.getD l []).getD e 0) hnl; rw [show (X.rows.getD l []).getD (n + m + 1) 0 / (X.rows.getD l []).getD e 0 = ratR X e (n + m + 1) l from rfl] at dl2; have qln := ql.n; have qld := ql.d; have qmn := qm.n; have qmd := qm.d; have hC2 := rFCompare_q (ratR X e (n + m + 1) i) (ratR X e (n + m + 1) l) (by omega) (by omega) (by omega) (by omega); rw [hl, hbl]; have e5 : (l : Int).toNat = l := Int.toNat_natCast l
          have k5 : (l : Int).toNat * 1 = l := by omega
          have hTb := hT.b; generalize cmpQ (ratR X e (n + m + 1) i) (ratR X e (n + m + 1) l) = cq at hC2 hls; refine Qx (fun K hK => ?_); refine Qt (n := 3) J J J J J Xy J (Qt (n := 3) J J J J J Xy J (QQ Jj hC2 J J J J (Qq J J J (QY J J J J (QY J J J J (Qv J J J (Qj (hK _ _ (Qz (Qy ?_)))))))))); clear hK K; refine Xv mixed 19 (.p 0 (.p 1 (.p 2 (.p 3 (.p 4 (.p 5 (.p 6 (.p 8 (.p 11 (.p 13 (.f 7 (.p 9 (.f 10 (.f 12 (.p 14 (.f 15 (.p 16 (.p 17 (.p 18 .done))))))))))))))))))) (by kernel_rfl) (fun K hK => ?_); refine Qq J J J (Qw ilss J J J J (Qq J J J (Qp 85 J (fun hc => ?_) (fun hc => ?_))))
          · have hls2 := hls; rw [if_pos (.inl hc)] at hls2; refine Qk J J J (Qk J J J (Qk J J J (Qk J J J (Qk J J J (Qk J J J (Qk J J J (Qk J J J (Qk J J J (Qk J J J (Qk J J J (Qk J J J (Qk J J J (Qk J J J (Qk J J J (Qc J J J J (Qj (hK _ _ (Qz (XU J ?_))))))))))))))))))); clear hK K; refine Xv mixed 3 (.p 0 (.p 2 (.f 1 (.a 3 .done)))) (by kernel_rfl) (fun K hK => ?_); refine Qq J J J (Qv J J J (Qt (n := 3) J J J J J Xy J (Qa 3 J J J J J szFrac J J (Qj (hK _ _ (Qz ?_)))))); clear hK K; refine Qx (fun K hK => ?_); refine Qq J J J (Qw (iadd (by omega) (by omega)) J J J J ?_); refine Qv J J J (Qj (hK _ _ (Q4 ?_))); clear hK K; refine Xb 3 (Qb (i + 1) (by omega) (by omega) (by rw [hls2]; exact Qu (by rw [hbi]; rfl) ⟨rfl, rfl, rfl, rfl, rfl, rfl, rfl, by simp only [Int.natCast_add]; rfl, trivial⟩))
          · refine Qq J J J (Qw ieql J J J J (Qq J J J (Qp 88 J (fun hc0 => ?_) (fun hc0 => ?_))))
            · refine QV J J J fG4 J (Qq J J J (QV J J J fG4 J (Qq J J J (QJ J J J J J lInts J (Qo 9 X.bas.length J J J (by simp [ints]) J sInts (by omega) (by omega) J ?_))))); rw [k2]
              refine QJ J J J J (Xi (by omega)) lInt J ?_
              refine QJ J J J J J lInts J (Qo 9 X.bas.length J J J (by simp [ints]) J sInts (by omega) (by omega) J ?_); rw [k5]
              refine QJ J J J J (Xi (by omega)) lInt J ?_
              refine Qw ilss J J J J (Qc J J J J (Q6 J J J J (Qj (hK _ _ (Qz ?_))))); clear hK K; refine QK J (fun hb2 => ?_) (fun hb2 => ?_)
              · have hls2 := hls; rw [if_pos (.inr ⟨hc0, hb2⟩)] at hls2; skip; refine Xv mixed 3 (.p 0 (.p 2 (.f 1 (.a 3 .done)))) (by kernel_rfl) (fun K hK => ?_); refine Qq J J J (Qv J J J (Qt (n := 3) J J J J J Xy J (Qa 3 J J J J J szFrac J J (Qj (hK _ _ (Qz ?_)))))); clear hK K; refine Qx (fun K hK => ?_); refine Qq J J J (Qw (iadd (by omega) (by omega)) J J J J ?_); refine Qv J J J (Qj (hK _ _ (Q4 ?_))); clear hK K; refine Xb 3 (Qb (i + 1) (by omega) (by omega) (by rw [hls2]; exact Qu (by rw [hbi]; rfl) ⟨rfl, rfl, rfl, rfl, rfl, rfl, rfl, by simp only [Int.natCast_add]; rfl, trivial⟩))
              · have hls2 := hls; rw [if_neg (fun h => h.elim hc fun h => hb2 h.2)] at hls2; refine QU (Qz (Qx fun K hK => ?_)); refine Qq J J J (Qw (iadd (by omega) (by omega)) J J J J ?_); refine Qv J J J (Qj (hK _ _ (Q4 ?_))); clear hK K; refine Xb 3 (Qb (i + 1) (by omega) (by omega) (by rw [hls2]; exact Qu (by rw [hbl]; rfl) ⟨rfl, rfl, rfl, rfl, rfl, rfl, rfl, by simp only [Int.natCast_add]; rfl, trivial⟩))
            · have hls2 := hls; rw [if_neg (fun h => h.elim hc fun h => hc0 h.1)] at hls2; refine Qk J J J (Qk J J J (Qk J J J (Qk J J J (Qk J J J (Qk J J J (Qk J J J (Qk J J J (Qk J J J (Qk J J J (Qk J J J (Q6 J J J J (Q6 J J J J (Qj (hK _ _ (Qz (XY J (QU (Qz ?_)))))))))))))))))); clear hK K; refine Qx (fun K hK => ?_); refine Qq J J J (Qw (iadd (by omega) (by omega)) J J J J ?_); refine Qv J J J (Qj (hK _ _ (Q4 ?_))); clear hK K; refine Xb 3 (Qb (i + 1) (by omega) (by omega) (by rw [hls2]; exact Qu (by rw [hbl]; rfl) ⟨rfl, rfl, rfl, rfl, rfl, rfl, rfl, by simp only [Int.natCast_add]; rfl, trivial⟩))
        · rw [if_pos (by omega)] at hls; have hls2 := hls; rw [show bstC X e (n + m + 1) (levR X e (n + m + 1) i) = [.ex (.bool false), .ex (.slice none 0 0), .ex (.slice none 0 0)] from if_pos (by omega)]; refine QU (Qz (Qy ?_)); refine Xv mixed 19 (.p 0 (.p 1 (.p 2 (.p 3 (.p 4 (.p 5 (.p 6 (.p 8 (.p 11 (.p 13 (.f 7 (.p 9 (.f 10 (.f 12 (.p 14 (.f 15 (.p 16 (.p 17 (.p 18 .done))))))))))))))))))) (by kernel_rfl) (fun K hK => ?_); refine Qq J J J (Qw ilss J J J J (Qq J J J (Qk J J J (Qk J J J (Qk J J J (Qk J J J (Qk J J J (Qk J J J (Qk J J J (Qk J J J (Qk J J J (Qk J J J (Qk J J J (Qk J J J (Qk J J J (Qk J J J (Qk J J J (Qc J J J J (Qj (hK _ _ (Qz (XU J ?_)))))))))))))))))))))); clear hK K; refine Xv mixed 3 (.p 0 (.p 2 (.f 1 (.a 3 .done)))) (by kernel_rfl) (fun K hK => ?_); refine Qq J J J (Qv J J J (Qt (n := 3) J J J J J Xy J (Qa 3 J J J J J szFrac J J (Qj (hK _ _ (Qz ?_)))))); clear hK K; refine Qx (fun K hK => ?_); refine Qq J J J (Qw (iadd (by omega) (by omega)) J J J J ?_); refine Qv J J J (Qj (hK _ _ (Q4 ?_))); clear hK K; refine Xb 3 (Qb (i + 1) (by omega) (by omega) (by rw [hls2]; exact Qu (by rw [hbi]; rfl) ⟨rfl, rfl, rfl, rfl, rfl, rfl, rfl, by simp only [Int.natCast_add]; rfl, trivial⟩))
    have hil : i = X.rows.length := by omega
    subst hil; refine Qr (Qz (Qy (Qy (Qx fun K hK => ?_)))); refine Qq J J J (Qw ilss J J J J (Qj (hK _ _ (Qz ?_)))); clear hK K; refine QK J (fun hl => ?_) (fun hl => ?_)
    · obtain ⟨rfl, rfl⟩ := hsome.1 hl; refine Qy (Qx fun K hK => ?_); refine Qt (n := 5) J J J J J lTab J (Qq J J J (Qa 5 J J J J J szTab5 J J (Qv J J J (Qj (hK _ _ (Qz (Q2 (QW (Qe (QW (Qe ?_))))))))))); clear hK K; refine YK () [_, _] rfl (Qd (n := 5) J J lTab J (QZ J QX)) J (te_sub (E := [(2, _), (1, _), (0, _)]) J) (fun i hi => absurd hi (by simp)) trivial
    · obtain ⟨k', X', rfl, hP, hb', hk'⟩ := hsome.2 (by omega); obtain ⟨l, hll⟩ : ∃ l : Nat, levR X e (n + m + 1) X.rows.length = l := ⟨(levR X e (n + m + 1) X.rows.length).toNat, by omega⟩; rw [hll, Int.toNat_natCast] at hP hb'; rw [hll]; have hpv := pivot34_ok n m W X.rows X'.rows X.goal X'.goal X.bas l e hP hT.b ar ab lr cr lb cb; rw [← hb'] at hpv; refine QU (Qz (Qx fun K hK => ?_)); refine Qt (n := 5) J J J J J lTab J (Qq J J J (Qq J J J (YZ [(2, _), (1, _), (0, _)] gopivot34 hpv J J J hbor J J J (fun _ _ => ?_)))); refine Qa 5 J J J J J szTab5 J J (Qj (hK _ _ (X6 (Q4 ?_)))); clear hK K; refine Xb 2 (Qb (k', X') (by dsimp only; omega) hk' (by exact Qu J ⟨rfl, rfl, rfl, trivial⟩))
attribute [local irreducible] OkF
theorem zeros34_F (n : Nat) (h1000 : n ≤ 1000) : OkF Tryz.prog 80 [intC n] 38 3 (frR (List.replicate n (some 0))) := by
  refine OkF.enter Tryz.func80 J _ Tryz.ntmps80 J ?_
  intro S w; refine Qy (Qx fun K hK => ?_); refine Qv J J J (Qj (hK _ _ (Qz (Qy ?_)))); clear hK K; refine Qx (fun K hK => ?_); refine Qq J J J (Z5 0 n J J J J sFracs (by omega) (by omega) J J J ?_); rw [frR_made, ← upO_zero (fun _ => 0)]; refine Qv J J J (Qj (hK _ _ (Qz (Qy (Qy ?_))))); clear hK K; refine Qx (fun K hK => ?_); refine Qv J J J (Qj (hK _ _ (Qz (Q0 ?_)))); clear hK K
  refine Xq (α := Nat) (fun i => i ≤ n)
    (fun i => [(0, .ct (intC n)), (3, .own 0), (4, .ct (intC i))]) (fun i => [(0, .row 38 3 (frR (upO (fun _ => 0) n i)))]) (fun i => n - i) 0 (Nat.zero_le _) (by exact Qu J ⟨rfl, rfl, rfl, trivial⟩) ?_
  intro i hi
  (try dsimp only at hi ⊢)
  refine Qy (Qy (Qx fun K hK => ?_)); refine Qq J J J (Qq J J J (Qw ilss J J J J (Qj (hK _ _ (Qz ?_))))); clear hK K; refine QK J (fun h => ?_) (fun h => ?_)
  · have e2 : (i : Int).toNat = i := Int.toNat_natCast i
    have hlt : i < n := by omega
    have eset := upO_set (fun _ => (0 : Rat)) hlt; have hW : Ok Tryz.prog 61 [intC 0] (ratC 0) := Zn 0 (by decide) (by decide); refine QU (Qz (Qy (Q0 (Qx fun K hK => ?_)))); refine Qq J J J (Qq J J J (QQ Zs hW J J J J (Xu n J J J (by rw [Zz, Jx]) J sFracs (by omega) (by omega) J ?_))); rw [e2]
    refine stFr J J J J (by rw [Jx]; exact hlt) szFrac ?_
    rw [eset]; refine Qj (hK _ _ (Qz ?_)); clear hK K; refine Qx (fun K hK => ?_); refine Qq J J J (Qw (iadd (by omega) (by omega)) J J J J ?_); refine Qv J J J (Qj (hK _ _ (Q4 ?_))); clear hK K; refine Qb (i + 1) (by omega) (by omega) (by exact Qu J ⟨rfl, rfl, by simp only [Int.natCast_add]; rfl, trivial⟩)
  · have hi' : i = n := by omega
    subst hi'
    have ez : upO (fun _ => (0 : Rat)) i i = List.replicate i (some 0) := by
      rw [upO_done]
      apply List.ext_getElem?
      intro j; simp [List.getElem?_replicate]
      split <;> simp_all
    rw [ez]; refine Qr (Qz (Qy (Qx fun K hK => ?_))); refine Qq J J J (Qv J J J (Qj (hK _ _ (Qz (Q2 ?_))))); clear hK K; refine Fin.retF J J J J
theorem goduals34 : InGo Tryz.prog 84 := InGo.of Tryz.func84 (by kernel_rfl) (by kernel_rfl)
set_option maxHeartbeats 8000000 in
theorem duals34_ok (n m W : Nat) (X : TSt) (hT : Tok W X) (hW : n + m ≤ W) (ar ab : Option Addr) (lr cr lb cb : Nat) :
    Ok Tryz.prog 84 [taC n m (.slice ar lr cr) X.goal (.slice ab lb cb)] (ratsC ((List.range m).map fun i => X.goal.getD (n + i) 0)) := by
  have thin := hT.thin; have hg := hT.g
  refine Ok.enter Tryz.func84 J _ Tryz.ntmps84 J ?_
  intro S w; refine Qy (Qx fun K hK => ?_); refine XZ 0 J J J J J J J (Qv J J J (Qj (hK _ _ (Qz (Qy ?_))))); clear hK K; refine Qx (fun K hK => ?_); refine Qv J J J (Qj (hK _ _ (Qz (Qy (Qy ?_))))); clear hK K; refine Qx (fun K hK => ?_); refine Qv J J J (Qj (hK _ _ (Qz (Q0 ?_)))); clear hK K
  refine Yv 3 1 38 3 J J J ?_
  refine Xq (α := Nat) (fun i => i ≤ m)
    (fun i => [(1, .own 0), (3, .own 1), (4, .ct (intC i))]) (fun i => [(1, .row 38 3 (rts ((List.range i).map fun i => X.goal.getD (n + i) 0))), (0, .box 102 (taCs n m (.slice ar lr cr) X.goal (.slice ab lb cb)))]) (fun i => m - i) 0 (Nat.zero_le _) (by exact Qu J ⟨rfl, rfl, rfl, trivial⟩) ?_
  intro i hi
  (try dsimp only at hi ⊢)
  refine Qy (Qy (Qx fun K hK => ?_)); refine Qq J J J (QV J J J fG1 J (QJ J J J J J lInt J (Qw ilss J J J J (Qj (hK _ _ (Qz ?_)))))); clear hK K; refine QK J (fun h => ?_) (fun h => ?_)
  · have e2 : ((n : Int) + i).toNat = n + i := by omega
    have q := hT.qg _ (X1 (z := (0 : Rat)) (show n + i < X.goal.length by omega)); have qn := q.n; have qd := q.d; have hRd := rFReduce_q (X.goal.getD (n + i) 0) (by omega) (by omega); refine QU (Qz (Qy (Q0 (Qx fun K hK => ?_)))); refine Qq J J J (QV J J J fG3 J (QJ J J J J J lRat1 J (QV J J J fG0 J (QJ J J J J J lInt J (Qq J J J (Qw (iadd (by omega) (by omega)) J J J J ?_))))))
    refine Qh J J J sFracs (by omega) (Z1 (by omega) (by omega)) J ?_
    refine Xd (n := 3) J J J Xy J J ?_
    rw [e2]; skip; refine QQ gorFReduce hRd J J J J (Ops.litN (n := 3) J J sFracs J J (by decide) J ?_)
    refine Qi i (rts ((List.range (i + 1)).map fun i => X.goal.getD (n + i) 0)) J J J J sFracs (by rw [rts_len]; simp) J (by omega) (by omega) (by rw [List.range_succ, List.map_append]; exact rts_snoc _ _) J ?_
    refine Qv J J J (Qj (hK _ _ (Qz ?_))); clear hK K; refine Qx (fun K hK => ?_); refine Qq J J J (Qw (iadd (by omega) (by omega)) J J J J ?_); refine Qv J J J (Qj (hK _ _ (Q4 ?_))); clear hK K; refine Qb (i + 1) (by omega) (by omega) (by exact Qu J ⟨rfl, rfl, by simp only [Int.natCast_add]; rfl, trivial⟩)
  · have hi' : i = m := by omega
    subst hi'; refine Xl 1 _ J (rts_frozen _ _) Xe (Qr (Qz (Qy (Qx fun K hK => ?_)))); refine Qq J J J (Qv J J J (Qj (hK _ _ (Qz (Q2 ?_))))); clear hK K; refine Q1 [_] rfl (QZ J QX) J J
def ptR (X : TSt) (n e : Nat) : Nat → List Rat
  | 0 => List.replicate n 0
  | i + 1 => if X.bas.getD i 0 < n then (ptR X n e i).set (X.bas.getD i 0).toNat (X.at i e) else ptR X n e i
theorem ptR_len (X : TSt) (n e : Nat) : ∀ i, (ptR X n e i).length = n
  | 0 => by simp [ptR]
  | i + 1 => by simp only [ptR]; split <;> simp [ptR_len X n e i]
theorem gopoint34 : InGo Tryz.prog 88 := InGo.of Tryz.func88 (by kernel_rfl) (by kernel_rfl)
set_option maxHeartbeats 8000000 in
theorem point34_ok (n m W : Nat) (X : TSt) (hT : Tok W X) (hW : W = n + m + 2) (hb : ∀ i, 0 ≤ X.bas.getD i 0) (ar ab : Option Addr) (lr cr lb cb : Nat) :
    OkM Tryz.prog 88 [.ct (taC n m (.slice ar lr cr) X.goal (.slice ab lb cb))] (tEnt (.slice ar lr cr) X.rows (.slice ab lb cb) X.bas) [] (fun _ : Unit => True)
      (fun _ => .ct (ratsC (ptR X n (n + m + 1) X.rows.length))) (fun _ => tEnt (.slice ar lr cr) X.rows (.slice ab lb cb) X.bas) := by
  have few := hT.few; have thin := hT.thin; have hTb := hT.b
  refine OkM.enter Tryz.func88 J _ Tryz.ntmps88 J (fun i hi => absurd hi (by simp)) ?_
  intro S w ρ0 hbor; refine Qy (Qx fun K hK => ?_); refine XZ 0 J J J J J J J (Qv J J J (Qj (hK _ _ (Qz (Qy ?_))))); clear hK K; refine Qx (fun K hK => ?_); refine QV J J J fG0 J (QJ J J J J J lInt J (Ops.callFr 2 gozeros34 (zeros34_F n (by omega)) J J J J J J ?_)); rw [show List.replicate n (some (0 : Rat)) = (ptR X n (n + m + 1) 0).map some by simp [ptR]]; refine Qv J J J (Qj (hK _ _ (Qz (Qy (Qy ?_))))); clear hK K; refine Qx (fun K hK => ?_); refine Qv J J J (Qj (hK _ _ (Qz (Q0 ?_)))); clear hK K
  refine Xq (α := Nat) (fun i => i ≤ X.rows.length)
    (fun i => [(1, .own 0), (3, .own 2), (4, .ct (intC i))])
    (fun i => (2, .row 38 3 (frR ((ptR X n (n + m + 1) i).map some))) :: (0, .box 102 (taCs n m (.slice ar lr cr) X.goal (.slice ab lb cb))) :: tEnt (.slice ar lr cr) X.rows (.slice ab lb cb) X.bas) (fun i => X.rows.length - i) 0 (Nat.zero_le _) (by exact Qu J ⟨rfl, rfl, rfl, trivial⟩) ?_
  intro i hi
  (try dsimp only at hi ⊢)
  have hpl := ptR_len X n (n + m + 1) i
  have hps : ptR X n (n + m + 1) (i + 1) = if X.bas.getD i 0 < n then (ptR X n (n + m + 1) i).set (X.bas.getD i 0).toNat (X.at i (n + m + 1)) else ptR X n (n + m + 1) i := rfl
  refine Qy (Qy (Qx fun K hK => ?_)); refine Qq J J J (QV J J J fG2 J (QJ J J J J J lRat2 J (ZK 8 X.rows.length J J J (by decide) (rowsR_len _) sRat2.und J ?_))); refine Qw ilss J J J J (Qj (hK _ _ (Qz ?_))); clear hK K; refine QK J (fun h => ?_) (fun h => ?_)
  · have k2 : (i : Int).toNat * 1 = i := by omega
    have e4 : ((n : Int) + m + 1).toNat = n + m + 1 := by omega
    have hlt : i < X.rows.length := by omega
    have hwi := hT.w i hlt; have q := hT.q i hlt _ (X1 (z := (0 : Rat)) (show n + m + 1 < (X.rows.getD i []).length by omega)); have qn := q.n; have qd := q.d; have hRd := rFReduce_q ((X.rows.getD i []).getD (n + m + 1) 0) (by omega) (by omega); have hbi := hb i; refine QU (Qz (Qy (Q0 (Qy ?_)))); refine Xv mixed 8 (.p 0 (.p 2 (.p 5 (.f 1 (.p 3 (.f 4 (.f 6 (.p 7 .done)))))))) (by kernel_rfl) (fun K hK => ?_); refine QV J J J fG4 J (Qq J J J (QV J J J fG0 J (QJ J J J J J lInts J (Qo 9 X.bas.length J J J (by simp [ints]) J sInts (by omega) (by omega) J ?_)))); rw [k2]
    refine QJ J J J J (Xi (by omega)) lInt J ?_
    refine QJ J J J J J lInt J (Qw ilss J J J J (Qj (hK _ _ (Qz ?_)))); clear hK K; refine QK J (fun h2 => ?_) (fun h2 => ?_)
    · rw [if_pos h2] at hps; obtain ⟨v, hv⟩ : ∃ v : Nat, X.bas.getD i 0 = v := ⟨(X.bas.getD i 0).toNat, by omega⟩; have e5 : (v : Int).toNat = v := Int.toNat_natCast v; rw [hv, e5] at hps; rw [hv] at h2; skip; refine Xv mixed 21 (.p 0 (.p 1 (.p 3 (.p 6 (.p 8 (.p 11 (.p 13 (.f 2 (.p 4 (.f 5 (.f 7 (.p 9 (.f 10 (.f 12 (.f 14 (.p 15 (.p 16 (.p 17 (.f 18 (.m 19 (.p 20 (.a 21 .done)))))))))))))))))))))) (by kernel_rfl) (fun K hK => ?_); refine Qq J J J (QV J J J fG4 J (Qq J J J (QV J J J fG2 J (Qq J J J (QV J J J fG0 J (QV J J J fG1 J (QJ J J J J J lInts J (Qo 9 X.bas.length J J J (by simp [ints]) J sInts (by omega) (by omega) J ?_)))))))); rw [k2]
      refine QJ J J J J (Xi (by omega)) lInt J ?_
      rw [hv]; refine QJ J J J J J lRat2 J (Qo 8 X.rows.length J J J (rowsR_len _) J sRat2 (by omega) (by omega) J ?_); rw [k2]; refine QJ J J J J (rowsR_at hlt) lRat1 J (QJ J J J J J lInt J (QJ J J J J J lInt J (Qw (iadd (by omega) (by omega)) J J J J ?_)))
      refine Qw (iadd (by omega) (by omega)) J J J J ?_
      refine Qh J J J sFracs (by omega) (Z1 (by omega) (by omega)) J ?_
      refine Xd (n := 3) J J J Xy J J ?_
      rw [e4]; skip; refine QQ gorFReduce hRd J J J J (Xu n J J J (by rw [Zz, List.length_map, hpl]) J sFracs (by omega) (by omega) J ?_); rw [e5]
      refine stFr J J J J (by rw [List.length_map]; omega) szFrac ?_
      rw [show ((ptR X n (n + m + 1) i).map some).set v (some ((X.rows.getD i []).getD (n + m + 1) 0)) = (ptR X n (n + m + 1) (i + 1)).map some by rw [hps, List.map_set]; rfl]; refine Qj (hK _ _ (Qz ?_)); clear hK K; refine Qx (fun K hK => ?_); refine Qq J J J (Qw (iadd (by omega) (by omega)) J J J J ?_); refine Qv J J J (Qj (hK _ _ (Q4 ?_))); clear hK K; refine Qb (i + 1) (by omega) (by omega) (by exact Qu J ⟨rfl, rfl, by simp only [Int.natCast_add]; rfl, trivial⟩)
    · rw [if_neg h2] at hps; rw [← hps]; refine QU (Qz (Qx fun K hK => ?_)); refine Qq J J J (Qw (iadd (by omega) (by omega)) J J J J ?_); refine Qv J J J (Qj (hK _ _ (Q4 ?_))); clear hK K; refine Qb (i + 1) (by omega) (by omega) (by exact Qu J ⟨rfl, rfl, by simp only [Int.natCast_add]; rfl, trivial⟩)
  · have hi' : i = X.rows.length := by omega
    subst hi'; refine Xl 2 _ J (frR_rats _ _) hbor (Qr (Qz (Qy (Qx fun K hK => ?_)))); refine Qq J J J (Qv J J J (Qj (hK _ _ (Qz (Q2 ?_))))); clear hK K; refine YK () [_] rfl (QZ J QX) J (te_sub (E := [(0, _)]) J) (fun i hi => absurd hi (by simp)) trivial
theorem zRat2 : (Tryz.prog.info? 34).map (·.size) = some 1 := by kernel_rfl
theorem bTab34 : bInfo Tryz.prog 102 = some (.agg #[.int .i64 0, .int .i64 0, .slice none 0 0, .slice none 0 0, .slice none 0 0], [(0, some 1), (1, some 1), (2, some 1), (3, some 1), (4, some 1)]) := by kernel_rfl
def cfR (cs : List Int) (W k : Nat) : List Rat := (List.range W).map fun c => if c < k then ((cs.getD c 0 : Int) : Rat) else 0
theorem cfR_len (cs : List Int) (W k : Nat) : (cfR cs W k).length = W := by simp [cfR]
theorem cfR_zero (cs : List Int) (W : Nat) : cfR cs W 0 = List.replicate W 0 := by
  unfold cfR
  apply List.ext_getElem?
  intro j; simp [List.getElem?_replicate]
  split <;> simp_all
theorem cfR_set (cs : List Int) {W k : Nat} (h : k < W) : (cfR cs W k).set k ((cs.getD k 0 : Int) : Rat) = cfR cs W (k + 1) := by
  unfold cfR
  apply List.ext_getElem?
  intro q; rw [List.getElem?_set]; by_cases hq : k = q
  · subst hq; simp [h]
  · rw [if_neg hq]; simp only [List.getElem?_map]
    cases e : (List.range W)[q]? with
    | none => rfl
    | some x =>
      obtain ⟨h1, h2⟩ := List.getElem?_eq_some_iff.1 e; simp at h2; subst h2; simp only [Option.map_some]
      congr 1
      by_cases h3 : q < k
      · rw [if_pos h3, if_pos (by omega)]
      · rw [if_neg h3, if_neg (by omega)]
def stRow (n m i : Nat) (r : Rw) : List Rat := (((cfR r.cs (n + m + 2) r.cs.length).set (n + i) 1).set (n + m) (-1)).set (n + m + 1) ((r.b : Int) : Rat)
def stRows (n : Nat) (rs : List Rw) : List (List Rat) := (List.range rs.length).map fun i => stRow n rs.length i (rs.getD i rw0)
def stRowsK (n : Nat) (rs : List Rw) (k : Nat) : List (List Rat) := (List.range k).map fun i => stRow n rs.length i (rs.getD i rw0)
theorem gostart34 : InGo Tryz.prog 79 := InGo.of Tryz.func79 (by kernel_rfl) (by kernel_rfl)
set_option maxHeartbeats 32000000 in
theorem start34_ok (n : Nat) (rs : List Rw) (hn : n ≤ 50) (hm : rs.length ≤ 90) (hr : ∀ r ∈ rs, OkRw n r) :
    OkM Tryz.prog 79 [.ct (intC n), .ct (rowsC rs)] [] [] (fun q : Value × Value => IsH rs.length q.1 ∧ IsH rs.length q.2)
      (fun q => .ct (.fr (aggT [intC n, intC rs.length, .ex q.1, .ex (.slice none 0 0), .ex q.2]))) (fun q => tEnt q.1 (stRows n rs) q.2 (rng n rs.length)) := by
  refine OkM.enter Tryz.func79 J _ Tryz.ntmps79 J (fun i hi => by cases hi) ?_
  intro S w ρ0 hbor; refine Qy (Qx fun K hK => ?_); refine Qf 0 J J zvTab J J J (Qj (hK _ _ (Qz (Qy ?_)))); clear hK K; refine Qx (fun K hK => ?_); refine Qq J J J (Q7 J J sRows.und (List.length_map ..) J (Qv J J J (Qj (hK _ _ (Qz (Qy ?_)))))); clear hK K; refine Qx (fun K hK => ?_); refine Qq J J J (Qq J J J (Xk J bTab34 J (.one J J J J (.one J J J J .nil)) J (Qf 1 J J zvTab J J J (Qa 5 J J J J J szTab5 J J (Qj (hK _ _ (Qz (Qy (Qy ?_))))))))); clear hK K; refine Qx (fun K hK => ?_); refine Qv J J J (Qj (hK _ _ (Qz (Q0 ?_)))); clear hK K; refine St.nilX 8 25 1 J J (St.nilX 9 3 1 J J ?_)
  refine Xq (α := Nat × Value × Value) (fun x => x.1 ≤ rs.length ∧ IsH x.1 x.2.1 ∧ IsH x.1 x.2.2)
    (fun x => [(0, .ct (intC n)), (1, .ct (rowsC rs)), (4, .own 0), (5, .ct (intC rs.length)), (6, .own 1), (7, .ct (intC x.1))])
    (fun x => [(9, .rowx x.2.2 3 1 (ints (rng n x.1))), (8, .rowx x.2.1 25 1 (rowsR (stRowsK n rs x.1))), (1, .box 102 [intC n, intC rs.length, .ex x.2.1, .ex (.slice none 0 0), .ex x.2.2]), (0, .box 102 [.ex (.int .i64 0), .ex (.int .i64 0), .ex (.slice none 0 0), .ex (.slice none 0 0), .ex (.slice none 0 0)])])
    (fun x => rs.length - x.1) (0, .slice none 0 0, .slice none 0 0) ⟨Nat.zero_le _, .inl ⟨rfl, rfl⟩, .inl ⟨rfl, rfl⟩⟩ (by exact Qu J ⟨rfl, rfl, rfl, rfl, rfl, rfl, trivial⟩) ?_
  rintro ⟨i, hR, hB⟩ ⟨hi, hHR, hHB⟩
  dsimp only at hi hHR hHB ⊢; have oneR := hHR.one; have oneB := hHB.one; refine Qy (Qy (Qx fun K hK => ?_)); refine Qq J J J (Qq J J J (Qw ilss J J J J (Qj (hK _ _ (Qz ?_))))); clear hK K; refine QK J (fun h => ?_) (fun h => ?_)
  · have hi2 : i < rs.length := by omega
    have e2 : (i : Int).toNat = i := Int.toNat_natCast i; have hrw : OkRw n (rs.getD i rw0) := hr _ (X1 hi2)
    have hzl : (stRowsK n rs i).length = i := by simp [stRowsK]
    have hzs : stRowsK n rs (i + 1) = stRowsK n rs i ++ [stRow n rs.length i (rs.getD i rw0)] := by unfold stRowsK; rw [List.range_succ, List.map_append]; rfl
    have hlen := hrw.len; have hcs := hrw.cs; have hb1 := hrw.b1; have hb2 := hrw.b2; refine QU (Qz (Qy (Q0 (Qy (Qx fun K hK => ?_))))); refine Qq J J J (Qq J J J (Qw (iadd (by omega) (by omega)) J J J J ?_))
    refine Qw (iadd (by omega) (by omega)) J J J J ?_
    refine Z5 2 (n + rs.length + 2) J J J (by omega) sFracs (by omega) (by omega) J J J ?_
    rw [frR_made, ← upO_zero (fun _ => 0)]; refine Qv J J J (Qj (hK _ _ (Qz (Qy (Qy ?_))))); clear hK K; refine Qx (fun K hK => ?_); refine Qv J J J (Qj (hK _ _ (Qz (Q0 ?_)))); clear hK K
    refine Xq (α := Nat) (fun k => k ≤ n + rs.length + 2)
      (fun k => [(0, .ct (intC n)), (1, .ct (rowsC rs)), (4, .own 0), (5, .ct (intC rs.length)), (6, .own 1), (7, .ct (intC i)), (8, .own 2), (9, .ct (intC k))]) (fun k => [(2, .row 38 3 (frR (upO (fun _ => 0) (n + rs.length + 2) k))), (9, .rowx hB 3 1 (ints (rng n i))), (8, .rowx hR 25 1 (rowsR (stRowsK n rs i))), (1, .box 102 [intC n, intC rs.length, .ex hR, .ex (.slice none 0 0), .ex hB]), (0, .box 102 [.ex (.int .i64 0), .ex (.int .i64 0), .ex (.slice none 0 0), .ex (.slice none 0 0), .ex (.slice none 0 0)])]) (fun k => n + rs.length + 2 - k) 0 (Nat.zero_le _) (by exact Qu J ⟨rfl, rfl, rfl, rfl, rfl, rfl, rfl, rfl, trivial⟩) ?_
    intro k hk
    (try dsimp only at hk ⊢)
    refine Qy (Qy (Qx fun K hK => ?_)); refine Qq J J J (Qq J J J (Ops.lenR (n + rs.length + 2) J J J (by decide) (by rw [Zz, Jx]) sFracs.und J ?_)); refine Qw ilss J J J J (Qj (hK _ _ (Qz ?_))); clear hK K; refine QK J (fun h1 => ?_) (fun h1 => ?_)
    · have e3 : (k : Int).toNat = k := Int.toNat_natCast k; have eset := upO_set (fun _ => (0 : Rat)) (show k < n + rs.length + 2 by omega); have hW : Ok Tryz.prog 61 [intC 0] (ratC 0) := Zn 0 (by decide) (by decide); refine QU (Qz (Qy (Q0 (Qx fun K hK => ?_)))); refine Qq J J J (Qq J J J (QQ Zs hW J J J J (Xu (n + rs.length + 2) J J J (by rw [Zz, Jx]) J sFracs (by omega) (by omega) J ?_))); rw [e3]
      refine stFr J J J J (by rw [Jx]; omega) szFrac ?_
      rw [eset]; refine Qj (hK _ _ (Qz ?_)); clear hK K; refine Qx (fun K hK => ?_); refine Qq J J J (Qw (iadd (by omega) (by omega)) J J J J ?_); refine Qv J J J (Qj (hK _ _ (Q4 ?_))); clear hK K; refine Qb (k + 1) (by omega) (by omega) (by exact Qu J ⟨rfl, rfl, rfl, rfl, rfl, rfl, rfl, by simp only [Int.natCast_add]; rfl, trivial⟩)
    have hkW : k = n + rs.length + 2 := by omega
    have ez : upO (fun _ => (0 : Rat)) (n + rs.length + 2) k = (cfR (rs.getD i rw0).cs (n + rs.length + 2) 0).map some := by
      rw [hkW, upO_done, cfR_zero]
      apply List.ext_getElem?
      intro j; simp [List.getElem?_replicate]
      split <;> simp_all
    rw [ez]; clear ez hkW h1; refine Qr (Qz (Qy (Qy (Qx fun K hK => ?_)))); refine Qv J J J (Qj (hK _ _ (Qz (Q0 ?_)))); clear hK K
    refine Xq (α := Nat) (fun k => k ≤ (rs.getD i rw0).cs.length)
      (fun k => [(0, .ct (intC n)), (1, .ct (rowsC rs)), (4, .own 0), (5, .ct (intC rs.length)), (6, .own 1), (7, .ct (intC i)), (8, .own 2), (10, .ct (intC k))]) (fun k => [(2, .row 38 3 (frR ((cfR (rs.getD i rw0).cs (n + rs.length + 2) k).map some))), (9, .rowx hB 3 1 (ints (rng n i))), (8, .rowx hR 25 1 (rowsR (stRowsK n rs i))), (1, .box 102 [intC n, intC rs.length, .ex hR, .ex (.slice none 0 0), .ex hB]), (0, .box 102 [.ex (.int .i64 0), .ex (.int .i64 0), .ex (.slice none 0 0), .ex (.slice none 0 0), .ex (.slice none 0 0)])]) (fun k => (rs.getD i rw0).cs.length - k) 0 (Nat.zero_le _) (by exact Qu J ⟨rfl, rfl, rfl, rfl, rfl, rfl, rfl, rfl, trivial⟩) ?_
    intro k hk
    (try dsimp only at hk ⊢)
    refine Qy (Qy (Qx fun K hK => ?_)); refine Qq J J J (Qq J J J (Qq J J J (Qh J J J sRows (by omega) (Zf (by omega) (by omega)) J ?_))); refine Zd J J fR0 J (Xz J J J lInts J (Q7 J J sInts.und (List.length_map ..) J (Qw ilss J J J J (Qj (hK _ _ (Qz ?_)))))); clear hK K; rw [e2]; skip; refine QK J (fun h1 => ?_) (fun h1 => ?_)
    · have e3 : (k : Int).toNat = k := Int.toNat_natCast k; have bq := hcs.get k; have eset := cfR_set (rs.getD i rw0).cs (show k < n + rs.length + 2 by omega); have hW := Zn ((rs.getD i rw0).cs.getD k 0) (by omega) (by omega); have hcl := cfR_len (rs.getD i rw0).cs (n + rs.length + 2) k; refine QU (Qz (Qy (Q0 (Qx fun K hK => ?_)))); refine Qq J J J (Qq J J J (Qq J J J (Qq J J J (Qh J J J sRows (by omega) (Zf (by omega) (by omega)) J ?_)))); refine Zd J J fR0 J (Xz J J J lInts J (Qq J J J ?_)); rw [e2]
      refine Qh J J J sInts (by omega) (X3 (by omega) (by omega)) J ?_
      refine Xz J J J lInt J ?_
      rw [e3]; refine QQ Zs hW J J J J (Xu (n + rs.length + 2) J J J (by rw [Zz, List.length_map, hcl]) J sFracs (by omega) (by omega) J ?_); rw [e3]
      refine stFr J J J J (by rw [List.length_map, hcl]; omega) szFrac ?_
      rw [← List.map_set, eset]; refine Qj (hK _ _ (Qz ?_)); clear hK K; refine Qx (fun K hK => ?_); refine Qq J J J (Qw (iadd (by omega) (by omega)) J J J J ?_); refine Qv J J J (Qj (hK _ _ (Q4 ?_))); clear hK K; refine Qb (k + 1) (by omega) (by omega) (by exact Qu J ⟨rfl, rfl, rfl, rfl, rfl, rfl, rfl, by simp only [Int.natCast_add]; rfl, trivial⟩)
    have hkC : k = (rs.getD i rw0).cs.length := by omega
    subst hkC; have hW1 : Ok Tryz.prog 61 [intC 1] (ratC 1) := Zn 1 (by decide) (by decide); have hWm : Ok Tryz.prog 61 [intC (-1)] (ratC (-1)) := Zn (-1) (by decide) (by decide); have hWb := Zn (rs.getD i rw0).b (by omega) (by omega); have hst : stRow n rs.length i (rs.getD i rw0) = (((cfR (rs.getD i rw0).cs (n + rs.length + 2) (rs.getD i rw0).cs.length).set (n + i) 1).set (n + rs.length) (-1)).set (n + rs.length + 1) (((rs.getD i rw0).b : Int) : Rat) := rfl; have hcl := cfR_len (rs.getD i rw0).cs (n + rs.length + 2) (rs.getD i rw0).cs.length
    have p1 : ((n : Int) + i).toNat = n + i := by omega
    have p2 : ((n : Int) + rs.length).toNat = n + rs.length := by omega
    have p3 : ((n : Int) + rs.length + 1).toNat = n + rs.length + 1 := by omega
    generalize cfR (rs.getD i rw0).cs (n + rs.length + 2) (rs.getD i rw0).cs.length = cur at hcl hst ⊢; refine Qr (Qz (Qy ?_)); refine Xv mixed 22 (.p 0 (.p 1 (.p 2 (.p 3 (.p 4 (.p 5 (.p 6 (.p 7 (.p 8 (.p 9 (.p 10 (.p 11 (.p 12 (.p 15 (.p 16 (.p 17 (.p 18 (.f 19 (.m 13 (.m 14 (.m 20 (.p 21 (.a 22 (.p 23 (.a 24 (.p 25 (.a 26 .done))))))))))))))))))))))))))) (by kernel_rfl) (fun K hK => ?_); refine Qq J J J (Qq J J J (Qq J J J (Qw (iadd (by omega) (by omega)) J J J J ?_))); refine Qq J J J (Qq J J J (Qq J J J (Qw (iadd (by omega) (by omega)) J J J J ?_))); refine Qq J J J (Qq J J J (Qq J J J (Qw (iadd (by omega) (by omega)) J J J J ?_)))
    refine Qw (iadd (by omega) (by omega)) J J J J ?_
    refine Qq J J J (Qq J J J (Qh J J J sRows (by omega) (Zf (by omega) (by omega)) J ?_)); refine Zd J J fR1 J (Xz J J J lInt J ?_); rw [e2]; skip; refine QQ Zs hW1 J J J J (QQ Zs hWm J J J J (QQ Zs hWb J J J J (Xu (n + rs.length + 2) J J J (by rw [Zz, List.length_map, hcl]) J sFracs (by omega) (by omega) J ?_))); rw [p1]
    refine stFr J J J J (by rw [List.length_map, hcl]; omega) szFrac ?_
    rw [← List.map_set]
    refine Xu (n + rs.length + 2) J J J (by rw [Zz, List.length_map, List.length_set, hcl]) J sFracs (by omega) (by omega) J ?_
    rw [p2]
    refine stFr J J J J (by rw [List.length_map, List.length_set, hcl]; omega) szFrac ?_
    rw [← List.map_set]
    refine Xu (n + rs.length + 2) J J J (by rw [Zz, List.length_map, List.length_set, List.length_set, hcl]) J sFracs (by omega) (by omega) J ?_
    rw [p3]
    refine stFr J J J J (by rw [List.length_map, List.length_set, List.length_set, hcl]; omega) szFrac ?_
    rw [← List.map_set, ← hst]
    refine Y4 2 _ J (frR_rats _ _) hbor ?_
    clear hst hcl hW1 hWm hWb; generalize stRow n rs.length i (rs.getD i rw0) = line at hzs ⊢; generalize stRowsK n rs i = zs at hzl hzs ⊢; refine Qj (hK _ _ (Qz ?_)); clear hK K; refine St.drawQ mixed [4, 11, 13, 15] (.p 0 (.p 2 (.p 5 (.p 7 (.p 8 (.p 9 (.f 1 (.m 3 (.a 4 (.m 6 (.p 12 (.m 10 (.a 11 (.a 13 (.p 14 (.a 15 .done .non)) .non) .non) .non)) (.m 10 (.m 6 (.p 12 (.a 11 (.a 13 (.p 14 (.a 15 .done .non)) .non) .non)) .non) .non)) (.m 6 (.a 4 (.p 12 (.m 10 (.a 11 (.a 13 (.p 14 (.a 15 .done .non)) .non) .non) .non)) (.m 10 (.a 4 (.p 12 (.a 11 (.a 13 (.p 14 (.a 15 .done .non)) .non) .non)) .non) .non)) (.m 10 (.a 4 (.m 6 (.p 12 (.a 11 (.a 13 (.p 14 (.a 15 .done .non)) .non) .non)) .non) (.m 6 (.a 4 (.p 12 (.a 11 (.a 13 (.p 14 (.a 15 .done .non)) .non) .non)) .non) .non)) .non))) (.m 6 (.m 3 (.a 4 (.p 12 (.m 10 (.a 11 (.a 13 (.p 14 (.a 15 .done .non)) .non) .non) .non)) (.m 10 (.a 4 (.p 12 (.a 11 (.a 13 (.p 14 (.a 15 .done .non)) .non) .non)) .non) .non)) (.m 10 (.m 3 (.a 4 (.p 12 (.a 11 (.a 13 (.p 14 (.a 15 .done .non)) .non) .non)) .non) .non) .non)) (.m 10 (.m 3 (.a 4 (.m 6 (.p 12 (.a 11 (.a 13 (.p 14 (.a 15 .done .non)) .non) .non)) .non) (.m 6 (.a 4 (.p 12 (.a 11 (.a 13 (.p 14 (.a 15 .done .non)) .non) .non)) .non) .non)) (.m 6 (.m 3 (.a 4 (.p 12 (.a 11 (.a 13 (.p 14 (.a 15 .done .non)) .non) .non)) .non) .non) .non)) .non)))))))))) (by kernel_rfl) (fun K hK => ?_)
    refine (fun (cont : ∀ x : Nat × Nat × Nat × Nat, (i + 1 ≤ x.2.1 ∧ x.2.1 ≤ maxLen ∧ i + 1 ≤ x.2.2.2 ∧ x.2.2.2 ≤ maxLen) → Go.Own.Fin _ [(0, .ct (intC n)), (1, .ct (rowsC rs)), (4, .own 0), (5, .ct (intC rs.length)), (6, .own 1), (7, .ct (intC i))]
      [(9, .rowx (.slice (some ⟨x.2.2.1, 0, none⟩) (i + 1) x.2.2.2) 3 1 (ints (rng n (i + 1)))), (8, .rowx (.slice (some ⟨x.1, 0, none⟩) (i + 1) x.2.1) 25 1 (rowsR (zs ++ [line]))), (1, .box 102 [intC n, intC rs.length, .ex (.slice (some ⟨x.1, 0, none⟩) (i + 1) x.2.1), .ex (.slice none 0 0), .ex (.slice (some ⟨x.2.2.1, 0, none⟩) (i + 1) x.2.2.2)]), (0, .box 102 [.ex (.int .i64 0), .ex (.int .i64 0), .ex (.slice none 0 0), .ex (.slice none 0 0), .ex (.slice none 0 0)])] K) => ?_) (fun x hx => hK _ _ ?_)
    rotate_left
    · obtain ⟨g1, c1, g2, c2⟩ := x; obtain ⟨e1, e2', e3', e4'⟩ := hx; dsimp only at e1 e2' e3' e4' ⊢; clear hK K; rw [← hzs]; refine Qz (Qx fun K hK => ?_); refine Qq J J J (Qw (iadd (by omega) (by omega)) J J J J ?_); refine Qv J J J (Qj (hK _ _ (Q4 ?_))); clear hK K; refine Qb (i + 1, .slice (some ⟨g1, 0, none⟩) (i + 1) c1, .slice (some ⟨g2, 0, none⟩) (i + 1) c2) (by dsimp only; omega) ⟨by dsimp only; omega, .inr ⟨by dsimp only; omega, g1, c1, e1, e2', rfl⟩, .inr ⟨by dsimp only; omega, g2, c2, e3', e4', rfl⟩⟩ (by exact Qu J ⟨rfl, rfl, rfl, rfl, rfl, by simp only [Int.natCast_add]; rfl, trivial⟩)
    clear hK; refine Qm (QV J J J fG2 J (Qj ?_)); refine Qm (Qq J J J (Qj ?_)); refine Qm (QV J J J fG4 J (Qj ?_)); refine Qm (Qq J J J (Qj ?_)); refine Qm (Qq J J J (Qj ?_)); refine Qm (Qw (iadd (by omega) (by omega)) J J J J (Qj ?_)); refine Fin.qf (QJ J J J J J lRat2 J (Qj ?_))
    refine X5 ?_ ?_
    · refine XQ J J sRat2 J J J (Qj (Xx ?_ ?_))
      · refine XJ 83 8 J J (Qi i (rowsR (zs ++ [line])) J J J J sRat2 (by rw [rowsR_len, hzl]) J (by omega) (by omega) (by simp [rowsR]) J ?_); refine Xw 86 8 (i + 1) J J (by rw [rowsR_len, List.length_append, hzl]; rfl) (by omega) (by decide) (fun g1 c1 e1 e2 => ?_); refine Qj (X5 ?_ ?_)
        · refine QJ J J J J J lInts J (Qj (Qm (QV J J J fG2 J (Qj ?_))))
          refine X5 ?_ ?_
          · refine XQ J J sInts J J J (Qj (Xx ?_ Q8)); refine XJ 88 9 J J (Qi i (ints (rng n (i + 1))) J J J J sInts (by simp [XX]) J (by omega) (by omega) (by rw [Zx, Xo, Int.natCast_add]; rfl) J ?_); refine Xw 93 9 (i + 1) J J (by simp [XX]) (by omega) (by decide) (fun g2 c2 e3 e4 => ?_); refine Qj (Xx (Qn J J J J J zRat2 (Nat.le_of_ble_eq_true J) (Qj ?_)) Q8); refine Qm (QV J J J fG4 J (Qj ?_)); refine Xx (Qn J J J J J Yu (Nat.le_of_ble_eq_true J) (Qj ?_)) Q8; exact X4 (XV cont (g1, c1, g2, c2) ⟨e1, e2, e3, e4⟩ (by exact Qu J ⟨rfl, rfl, rfl, rfl, rfl, rfl, trivial⟩))
          exact Q8
        refine X5 ?_ ?_
        · refine XQ J J sInts J J J (Qj (X5 ?_ ?_))
          · refine QJ J J J J J lInts J (Qj (Qm (QV J J J fG2 J (Qj ?_))))
            refine Xx ?_ Q8
            refine XJ 88 9 J J (Qi i (ints (rng n (i + 1))) J J J J sInts (by simp [XX]) J (by omega) (by omega) (by rw [Zx, Xo, Int.natCast_add]; rfl) J ?_); refine Xw 93 9 (i + 1) J J (by simp [XX]) (by omega) (by decide) (fun g2 c2 e3 e4 => ?_); refine Qj (Xx (Qn J J J J J zRat2 (Nat.le_of_ble_eq_true J) (Qj ?_)) Q8); refine Qm (QV J J J fG4 J (Qj ?_)); refine Xx (Qn J J J J J Yu (Nat.le_of_ble_eq_true J) (Qj ?_)) Q8; exact X4 (XV cont (g1, c1, g2, c2) ⟨e1, e2, e3, e4⟩ (by exact Qu J ⟨rfl, rfl, rfl, rfl, rfl, rfl, trivial⟩))
          exact Q8
        exact Q8
      refine X5 ?_ ?_
      · refine QJ J J J J J lInts J (Qj (Xx ?_ ?_))
        · refine XJ 83 8 J J (Qi i (rowsR (zs ++ [line])) J J J J sRat2 (by rw [rowsR_len, hzl]) J (by omega) (by omega) (by simp [rowsR]) J ?_); refine Xw 86 8 (i + 1) J J (by rw [rowsR_len, List.length_append, hzl]; rfl) (by omega) (by decide) (fun g1 c1 e1 e2 => ?_); refine Qj (Qm (QV J J J fG2 J (Qj ?_)))
          refine X5 ?_ ?_
          · refine XQ J J sInts J J J (Qj (Xx ?_ Q8)); refine XJ 88 9 J J (Qi i (ints (rng n (i + 1))) J J J J sInts (by simp [XX]) J (by omega) (by omega) (by rw [Zx, Xo, Int.natCast_add]; rfl) J ?_); refine Xw 93 9 (i + 1) J J (by simp [XX]) (by omega) (by decide) (fun g2 c2 e3 e4 => ?_); refine Qj (Xx (Qn J J J J J zRat2 (Nat.le_of_ble_eq_true J) (Qj ?_)) Q8); refine Qm (QV J J J fG4 J (Qj ?_)); refine Xx (Qn J J J J J Yu (Nat.le_of_ble_eq_true J) (Qj ?_)) Q8; exact X4 (XV cont (g1, c1, g2, c2) ⟨e1, e2, e3, e4⟩ (by exact Qu J ⟨rfl, rfl, rfl, rfl, rfl, rfl, trivial⟩))
          exact Q8
        refine X5 ?_ ?_
        · refine XQ J J sInts J J J (Qj (Xx ?_ ?_))
          · refine XJ 83 8 J J (Qi i (rowsR (zs ++ [line])) J J J J sRat2 (by rw [rowsR_len, hzl]) J (by omega) (by omega) (by simp [rowsR]) J ?_); refine Xw 86 8 (i + 1) J J (by rw [rowsR_len, List.length_append, hzl]; rfl) (by omega) (by decide) (fun g1 c1 e1 e2 => ?_); refine Qj (Qm (QV J J J fG2 J (Qj ?_)))
            refine Xx ?_ Q8
            refine XJ 88 9 J J (Qi i (ints (rng n (i + 1))) J J J J sInts (by simp [XX]) J (by omega) (by omega) (by rw [Zx, Xo, Int.natCast_add]; rfl) J ?_); refine Xw 93 9 (i + 1) J J (by simp [XX]) (by omega) (by decide) (fun g2 c2 e3 e4 => ?_); refine Qj (Xx (Qn J J J J J zRat2 (Nat.le_of_ble_eq_true J) (Qj ?_)) Q8); refine Qm (QV J J J fG4 J (Qj ?_)); refine Xx (Qn J J J J J Yu (Nat.le_of_ble_eq_true J) (Qj ?_)) Q8; exact X4 (XV cont (g1, c1, g2, c2) ⟨e1, e2, e3, e4⟩ (by exact Qu J ⟨rfl, rfl, rfl, rfl, rfl, rfl, trivial⟩))
          exact Q8
        exact Q8
      refine X5 ?_ ?_
      · refine XQ J J sInts J J J (Qj (Xx ?_ ?_))
        · refine XJ 83 8 J J (Qi i (rowsR (zs ++ [line])) J J J J sRat2 (by rw [rowsR_len, hzl]) J (by omega) (by omega) (by simp [rowsR]) J ?_); refine Xw 86 8 (i + 1) J J (by rw [rowsR_len, List.length_append, hzl]; rfl) (by omega) (by decide) (fun g1 c1 e1 e2 => ?_); refine Qj (X5 ?_ ?_)
          · refine QJ J J J J J lInts J (Qj (Qm (QV J J J fG2 J (Qj ?_))))
            refine Xx ?_ Q8
            refine XJ 88 9 J J (Qi i (ints (rng n (i + 1))) J J J J sInts (by simp [XX]) J (by omega) (by omega) (by rw [Zx, Xo, Int.natCast_add]; rfl) J ?_); refine Xw 93 9 (i + 1) J J (by simp [XX]) (by omega) (by decide) (fun g2 c2 e3 e4 => ?_); refine Qj (Xx (Qn J J J J J zRat2 (Nat.le_of_ble_eq_true J) (Qj ?_)) Q8); refine Qm (QV J J J fG4 J (Qj ?_)); refine Xx (Qn J J J J J Yu (Nat.le_of_ble_eq_true J) (Qj ?_)) Q8; exact X4 (XV cont (g1, c1, g2, c2) ⟨e1, e2, e3, e4⟩ (by exact Qu J ⟨rfl, rfl, rfl, rfl, rfl, rfl, trivial⟩))
          exact Q8
        refine X5 ?_ ?_
        · refine QJ J J J J J lInts J (Qj (Xx ?_ ?_))
          · refine XJ 83 8 J J (Qi i (rowsR (zs ++ [line])) J J J J sRat2 (by rw [rowsR_len, hzl]) J (by omega) (by omega) (by simp [rowsR]) J ?_); refine Xw 86 8 (i + 1) J J (by rw [rowsR_len, List.length_append, hzl]; rfl) (by omega) (by decide) (fun g1 c1 e1 e2 => ?_); refine Qj (Qm (QV J J J fG2 J (Qj ?_)))
            refine Xx ?_ Q8
            refine XJ 88 9 J J (Qi i (ints (rng n (i + 1))) J J J J sInts (by simp [XX]) J (by omega) (by omega) (by rw [Zx, Xo, Int.natCast_add]; rfl) J ?_); refine Xw 93 9 (i + 1) J J (by simp [XX]) (by omega) (by decide) (fun g2 c2 e3 e4 => ?_); refine Qj (Xx (Qn J J J J J zRat2 (Nat.le_of_ble_eq_true J) (Qj ?_)) Q8); refine Qm (QV J J J fG4 J (Qj ?_)); refine Xx (Qn J J J J J Yu (Nat.le_of_ble_eq_true J) (Qj ?_)) Q8; exact X4 (XV cont (g1, c1, g2, c2) ⟨e1, e2, e3, e4⟩ (by exact Qu J ⟨rfl, rfl, rfl, rfl, rfl, rfl, trivial⟩))
          exact Q8
        exact Q8
      exact Q8
    refine X5 ?_ ?_
    · refine QJ J J J J J lInts J (Qj (X5 ?_ ?_))
      · refine XQ J J sRat2 J J J (Qj (Xx ?_ ?_))
        · refine XJ 83 8 J J (Qi i (rowsR (zs ++ [line])) J J J J sRat2 (by rw [rowsR_len, hzl]) J (by omega) (by omega) (by simp [rowsR]) J ?_); refine Xw 86 8 (i + 1) J J (by rw [rowsR_len, List.length_append, hzl]; rfl) (by omega) (by decide) (fun g1 c1 e1 e2 => ?_); refine Qj (Qm (QV J J J fG2 J (Qj ?_)))
          refine X5 ?_ ?_
          · refine XQ J J sInts J J J (Qj (Xx ?_ Q8)); refine XJ 88 9 J J (Qi i (ints (rng n (i + 1))) J J J J sInts (by simp [XX]) J (by omega) (by omega) (by rw [Zx, Xo, Int.natCast_add]; rfl) J ?_); refine Xw 93 9 (i + 1) J J (by simp [XX]) (by omega) (by decide) (fun g2 c2 e3 e4 => ?_); refine Qj (Xx (Qn J J J J J zRat2 (Nat.le_of_ble_eq_true J) (Qj ?_)) Q8); refine Qm (QV J J J fG4 J (Qj ?_)); refine Xx (Qn J J J J J Yu (Nat.le_of_ble_eq_true J) (Qj ?_)) Q8; exact X4 (XV cont (g1, c1, g2, c2) ⟨e1, e2, e3, e4⟩ (by exact Qu J ⟨rfl, rfl, rfl, rfl, rfl, rfl, trivial⟩))
          exact Q8
        refine X5 ?_ ?_
        · refine XQ J J sInts J J J (Qj (Xx ?_ ?_))
          · refine XJ 83 8 J J (Qi i (rowsR (zs ++ [line])) J J J J sRat2 (by rw [rowsR_len, hzl]) J (by omega) (by omega) (by simp [rowsR]) J ?_); refine Xw 86 8 (i + 1) J J (by rw [rowsR_len, List.length_append, hzl]; rfl) (by omega) (by decide) (fun g1 c1 e1 e2 => ?_); refine Qj (Qm (QV J J J fG2 J (Qj ?_)))
            refine Xx ?_ Q8
            refine XJ 88 9 J J (Qi i (ints (rng n (i + 1))) J J J J sInts (by simp [XX]) J (by omega) (by omega) (by rw [Zx, Xo, Int.natCast_add]; rfl) J ?_); refine Xw 93 9 (i + 1) J J (by simp [XX]) (by omega) (by decide) (fun g2 c2 e3 e4 => ?_); refine Qj (Xx (Qn J J J J J zRat2 (Nat.le_of_ble_eq_true J) (Qj ?_)) Q8); refine Qm (QV J J J fG4 J (Qj ?_)); refine Xx (Qn J J J J J Yu (Nat.le_of_ble_eq_true J) (Qj ?_)) Q8; exact X4 (XV cont (g1, c1, g2, c2) ⟨e1, e2, e3, e4⟩ (by exact Qu J ⟨rfl, rfl, rfl, rfl, rfl, rfl, trivial⟩))
          exact Q8
        exact Q8
      refine X5 ?_ ?_
      · refine XQ J J sInts J J J (Qj (X5 ?_ ?_))
        · refine XQ J J sRat2 J J J (Qj (Xx ?_ ?_))
          · refine XJ 83 8 J J (Qi i (rowsR (zs ++ [line])) J J J J sRat2 (by rw [rowsR_len, hzl]) J (by omega) (by omega) (by simp [rowsR]) J ?_); refine Xw 86 8 (i + 1) J J (by rw [rowsR_len, List.length_append, hzl]; rfl) (by omega) (by decide) (fun g1 c1 e1 e2 => ?_); refine Qj (Qm (QV J J J fG2 J (Qj ?_)))
            refine Xx ?_ Q8
            refine XJ 88 9 J J (Qi i (ints (rng n (i + 1))) J J J J sInts (by simp [XX]) J (by omega) (by omega) (by rw [Zx, Xo, Int.natCast_add]; rfl) J ?_); refine Xw 93 9 (i + 1) J J (by simp [XX]) (by omega) (by decide) (fun g2 c2 e3 e4 => ?_); refine Qj (Xx (Qn J J J J J zRat2 (Nat.le_of_ble_eq_true J) (Qj ?_)) Q8); refine Qm (QV J J J fG4 J (Qj ?_)); refine Xx (Qn J J J J J Yu (Nat.le_of_ble_eq_true J) (Qj ?_)) Q8; exact X4 (XV cont (g1, c1, g2, c2) ⟨e1, e2, e3, e4⟩ (by exact Qu J ⟨rfl, rfl, rfl, rfl, rfl, rfl, trivial⟩))
          exact Q8
        exact Q8
      exact Q8
    refine X5 ?_ ?_
    · refine XQ J J sInts J J J (Qj (X5 ?_ ?_))
      · refine XQ J J sRat2 J J J (Qj (Xx ?_ ?_))
        · refine XJ 83 8 J J (Qi i (rowsR (zs ++ [line])) J J J J sRat2 (by rw [rowsR_len, hzl]) J (by omega) (by omega) (by simp [rowsR]) J ?_); refine Xw 86 8 (i + 1) J J (by rw [rowsR_len, List.length_append, hzl]; rfl) (by omega) (by decide) (fun g1 c1 e1 e2 => ?_); refine Qj (X5 ?_ ?_)
          · refine QJ J J J J J lInts J (Qj (Qm (QV J J J fG2 J (Qj ?_))))
            refine Xx ?_ Q8
            refine XJ 88 9 J J (Qi i (ints (rng n (i + 1))) J J J J sInts (by simp [XX]) J (by omega) (by omega) (by rw [Zx, Xo, Int.natCast_add]; rfl) J ?_); refine Xw 93 9 (i + 1) J J (by simp [XX]) (by omega) (by decide) (fun g2 c2 e3 e4 => ?_); refine Qj (Xx (Qn J J J J J zRat2 (Nat.le_of_ble_eq_true J) (Qj ?_)) Q8); refine Qm (QV J J J fG4 J (Qj ?_)); refine Xx (Qn J J J J J Yu (Nat.le_of_ble_eq_true J) (Qj ?_)) Q8; exact X4 (XV cont (g1, c1, g2, c2) ⟨e1, e2, e3, e4⟩ (by exact Qu J ⟨rfl, rfl, rfl, rfl, rfl, rfl, trivial⟩))
          exact Q8
        refine X5 ?_ ?_
        · refine QJ J J J J J lInts J (Qj (Xx ?_ ?_))
          · refine XJ 83 8 J J (Qi i (rowsR (zs ++ [line])) J J J J sRat2 (by rw [rowsR_len, hzl]) J (by omega) (by omega) (by simp [rowsR]) J ?_); refine Xw 86 8 (i + 1) J J (by rw [rowsR_len, List.length_append, hzl]; rfl) (by omega) (by decide) (fun g1 c1 e1 e2 => ?_); refine Qj (Qm (QV J J J fG2 J (Qj ?_)))
            refine Xx ?_ Q8
            refine XJ 88 9 J J (Qi i (ints (rng n (i + 1))) J J J J sInts (by simp [XX]) J (by omega) (by omega) (by rw [Zx, Xo, Int.natCast_add]; rfl) J ?_); refine Xw 93 9 (i + 1) J J (by simp [XX]) (by omega) (by decide) (fun g2 c2 e3 e4 => ?_); refine Qj (Xx (Qn J J J J J zRat2 (Nat.le_of_ble_eq_true J) (Qj ?_)) Q8); refine Qm (QV J J J fG4 J (Qj ?_)); refine Xx (Qn J J J J J Yu (Nat.le_of_ble_eq_true J) (Qj ?_)) Q8; exact X4 (XV cont (g1, c1, g2, c2) ⟨e1, e2, e3, e4⟩ (by exact Qu J ⟨rfl, rfl, rfl, rfl, rfl, rfl, trivial⟩))
          exact Q8
        exact Q8
      refine X5 ?_ ?_
      · refine QJ J J J J J lInts J (Qj (X5 ?_ ?_))
        · refine XQ J J sRat2 J J J (Qj (Xx ?_ ?_))
          · refine XJ 83 8 J J (Qi i (rowsR (zs ++ [line])) J J J J sRat2 (by rw [rowsR_len, hzl]) J (by omega) (by omega) (by simp [rowsR]) J ?_); refine Xw 86 8 (i + 1) J J (by rw [rowsR_len, List.length_append, hzl]; rfl) (by omega) (by decide) (fun g1 c1 e1 e2 => ?_); refine Qj (Qm (QV J J J fG2 J (Qj ?_)))
            refine Xx ?_ Q8
            refine XJ 88 9 J J (Qi i (ints (rng n (i + 1))) J J J J sInts (by simp [XX]) J (by omega) (by omega) (by rw [Zx, Xo, Int.natCast_add]; rfl) J ?_); refine Xw 93 9 (i + 1) J J (by simp [XX]) (by omega) (by decide) (fun g2 c2 e3 e4 => ?_); refine Qj (Xx (Qn J J J J J zRat2 (Nat.le_of_ble_eq_true J) (Qj ?_)) Q8); refine Qm (QV J J J fG4 J (Qj ?_)); refine Xx (Qn J J J J J Yu (Nat.le_of_ble_eq_true J) (Qj ?_)) Q8; exact X4 (XV cont (g1, c1, g2, c2) ⟨e1, e2, e3, e4⟩ (by exact Qu J ⟨rfl, rfl, rfl, rfl, rfl, rfl, trivial⟩))
          exact Q8
        exact Q8
      exact Q8
    exact Q8
  · have him : i = rs.length := by omega
    subst him
    have key : ∀ v, IsH rs.length v → ∃ (a : Option Addr) (l c : Nat), v = .slice a l c := fun v hv => by
      rcases hv with ⟨_, rfl⟩ | ⟨_, gb, c, _, _, rfl⟩
      · exact ⟨_, _, _, rfl⟩
      · exact ⟨_, _, _, rfl⟩
    obtain ⟨a1, l1, c1, rfl⟩ := key hR hHR; obtain ⟨a2, l2, c2, rfl⟩ := key hB hHB; refine Qr (Qz (Qy (Qx fun K hK => ?_))); refine Qt (n := 5) J J J J J lTab J (Qa 5 J J J J J szTab5 J J (Qj (hK _ _ (Qz (Q2 ?_))))); clear hK K; refine YK (.slice a1 l1 c1, .slice a2 l2 c2) [_] rfl (Qd (n := 5) J J lTab J QX) J (fun j e he => ?_) (fun i hi => absurd hi (by simp)) ⟨hHR, hHB⟩; by_cases h8 : 8 = j
    · subst h8; exact he
    · by_cases h9 : 9 = j
      · subst h9; exact he
      · rw [Q3 _ _ h8, Q3 _ _ h9] at he; cases he
end Go.Proofs.YtdhmbgogmoaofaaGreat
namespace Go.Proofs.YtdhmbgogmoaofaaGreat
open Go.Own Go.Limbs Go.Det
section
variable {n : Nat} {rs : List Rw} {c : List Int} {bs : List Nat}
def vcA (n : Nat) (rs : List Rw) (c : List Int) (v : Nat) : Vec := if v = n + rs.length + 1 then rhsQ rs else colA n rs c v
theorem vcA_lo {v : Nat} (h : v ≤ n + rs.length) : vcA n rs c v = colA n rs c v := if_neg (by omega)
theorem vcA_hi : vcA n rs c (n + rs.length + 1) = rhsQ rs := if_pos rfl
theorem vcA_V (v : Nat) : Vok (rs.length + 2) (vcA n rs c v) := by
  unfold vcA; split
  · exact JZ
  · exact Ym v
theorem vcA_or (v : Nat) : vcA n rs c v = rhsQ rs ∨ ∃ u, vcA n rs c v = colA n rs c u := by
  unfold vcA; split
  · exact .inl J
  · exact .inr ⟨v, rfl⟩
def rowQ (n : Nat) (rs : List Rw) (c : List Int) (bs : List Nat) (i : Nat) : List Rat := (List.range (n + rs.length + 2)).map fun v => rq (colA n rs c) bs i (vcA n rs c v)
theorem YX (i : Nat) : (rowQ n rs c bs i).length = n + rs.length + 2 := by simp [rowQ]
theorem Z8 {i v : Nat} (h : v < n + rs.length + 2) : (rowQ n rs c bs i).getD v 0 = rq (colA n rs c) bs i (vcA n rs c v) := by
  unfold rowQ; simp [List.getD_eq_getElem?_getD, List.getElem?_map, h]
def tst (n : Nat) (rs : List Rw) (c : List Int) (g : Nat) (bs : List Nat) : TSt := ⟨(List.range rs.length).map (rowQ n rs c bs), rowQ n rs c bs g, (List.range rs.length).map fun i => ((bs.getD i 0 : Nat) : Int)⟩
theorem Zt (g : Nat) : (tst n rs c g bs).rows.length = rs.length := by simp [tst]
theorem Yz {g i : Nat} (h : i < rs.length) : (tst n rs c g bs).rows.getD i [] = rowQ n rs c bs i := by
  unfold tst; simp [List.getD_eq_getElem?_getD, List.getElem?_map, h]
theorem tst_at {g i v : Nat} (h : i < rs.length) (hv : v < n + rs.length + 2) : (tst n rs c g bs).at i v = rq (colA n rs c) bs i (vcA n rs c v) := by
  unfold TSt.at; rw [Yz h, Z8 hv]
theorem tst_bas {g i : Nat} (h : i < rs.length) : (tst n rs c g bs).bas.getD i 0 = ((bs.getD i 0 : Nat) : Int) := by
  unfold tst; simp [List.getD_eq_getElem?_getD, List.getElem?_map, h]
theorem tst_bas_set {g r s : Nat} (hl : bs.length = rs.length + 2) (hr : r < rs.length) : (tst n rs c g (bs.set r s)).bas = (tst n rs c g bs).bas.set r (s : Int) := by
  unfold tst
  apply List.ext_getElem?
  intro q; rw [List.getElem?_set]; by_cases hq : r = q
  · subst hq; simp [hr, List.getD_eq_getElem?_getD, List.getElem?_set, show r < bs.length by omega]
  · rw [if_neg hq]; rcases Nat.lt_or_ge q rs.length with h1 | h1
    · simp [h1, hq, List.getD_eq_getElem?_getD, List.getElem?_set]
    · rw [List.getElem?_eq_none (by simpa using h1), List.getElem?_eq_none (by simpa using h1)]
theorem rq_Q9 (hL : LpOk n rs c) (hm : rs.length ≤ 6) (hl : bs.length = rs.length + 2) (hne : dD (colA n rs c) bs ≠ 0) {i : Nat} (hi : i < rs.length + 2) (v : Nat) : Q9 (rq (colA n rs c) bs i (vcA n rs c v)) := by
  have h1 := tt_Kt hL (i := i) hl hi (vcA_or (c := c) v); have h2 := tt_Kt hL (i := rs.length) hl (by omega) (.inr ⟨bs.getD rs.length 0, rfl⟩); rw [tt_own hl (by omega)] at h2; have := F9.shq hm (den_pos hne) h2 h1; rw [rq_shq hne]; exact ⟨Qg this.num, Qg this.den⟩
theorem rowQ_Q9 (hL : LpOk n rs c) (hm : rs.length ≤ 6) (hl : bs.length = rs.length + 2) (hne : dD (colA n rs c) bs ≠ 0) {i : Nat} (hi : i < rs.length + 2) : ∀ x ∈ rowQ n rs c bs i, Q9 x := fun x hx => by
  obtain ⟨v, _, rfl⟩ := List.mem_map.1 hx
  exact rq_Q9 hL hm hl hne hi v
theorem tst_tok (hL : LpOk n rs c) (hm : rs.length ≤ 6) (hl : bs.length = rs.length + 2) (hne : dD (colA n rs c) bs ≠ 0) {g : Nat} (hg : g < rs.length + 2) : Tok (n + rs.length + 2) (tst n rs c g bs) := by
  have hn := hL.nn; refine ⟨by rw [Zt]; omega, by omega, fun k hk => ?_, YX g, by unfold tst; simp, fun k hk => ?_, rowQ_Q9 hL hm hl hne hg⟩
  · rw [Zt] at hk; rw [Yz hk, YX]
  · rw [Zt] at hk; rw [Yz hk]; exact rowQ_Q9 hL hm hl hne (by omega)
theorem tst_piv (hL : LpOk n rs c) (hm : rs.length ≤ 6) (hB : Bas (colA n rs c) (Vok (rs.length + 2)) (rs.length + 2) bs) {g r s : Nat} (hgm : rs.length ≤ g) (hg : g < rs.length + 2) (hr : r < rs.length) (hs : s ≤ n + rs.length) (hp : rq (colA n rs c) bs r (colA n rs c s) ≠ 0) :
    Piv (n + rs.length + 2) (tst n rs c g bs).rows (tst n rs c g (bs.set r s)).rows (tst n rs c g bs).goal (tst n rs c g (bs.set r s)).goal r s := by
  have hn := hL.nn; have hl := hB.len; have hB' := hB.piv (r := r) (s := s) (by omega) (Ym s) (rq_ne hp); have hl' := hB'.len; have es : vcA n rs c s = colA n rs c s := vcA_lo hs; refine ⟨by rw [Zt]; exact hr, by omega, by rw [Zt]; omega, by omega, by rw [Zt, Zt], fun k hk => ?_, fun k hk => ?_, YX g, YX g, fun k hk => ?_, ?_, rowQ_Q9 hL hm hl hB.ne hg, ?_, fun v hv => ?_, fun k hk hkr v hv => ?_, fun v hv => ?_⟩
  · rw [Zt] at hk; rw [Yz hk, YX]
  · rw [Zt] at hk; rw [Yz hk, YX]
  · rw [Zt] at hk; rw [Yz hk]; exact rowQ_Q9 hL hm hl hB.ne (by omega)
  · rw [Yz hr]; exact rowQ_Q9 hL hm hl' hB'.ne (by omega)
  · rw [Yz hr, Z8 (by omega), es]; exact hp
  · rw [Yz hr, Yz hr, Z8 hv, Z8 hv, Z8 (by omega), es]; exact rq_piv_r hB.ne hp _
  · rw [Zt] at hk; rw [Yz hk, Yz hr, Yz hk, Z8 hv, Z8 hv, Z8 (by omega), Z8 hv, es, rq_piv_r hB.ne hp]; exact hB.rq_piv_i (by omega) (by omega) hkr (vcA_V v) hp
  · show (rowQ n rs c (bs.set r s) g).getD v 0 = (rowQ n rs c bs g).getD v 0 - (rowQ n rs c bs g).getD s 0 * _; rw [Yz hr, Z8 hv, Z8 hv, Z8 (by omega), Z8 hv, es, rq_piv_r hB.ne hp]; exact hB.rq_piv_i (by omega) (by omega) (by omega) (vcA_V v) hp
theorem rq_sign (hne : dD (colA n rs c) bs ≠ 0) (i : Nat) (x : Vec) : ((rq (colA n rs c) bs i x).num < 0 ↔ tt (colA n rs c) bs i x < 0) ∧ (0 < (rq (colA n rs c) bs i x).num ↔ 0 < tt (colA n rs c) bs i x) ∧ (rq (colA n rs c) bs i x = 0 ↔ tt (colA n rs c) bs i x = 0) := by
  have hs := Ju (a := tt (colA n rs c) bs i x) (den_pos hne); rw [← rq_shq hne] at hs; obtain ⟨h1, h2, h3⟩ := hs; have h4 : rq (colA n rs c) bs i x = 0 ↔ (rq (colA n rs c) bs i x).num = 0 := Rat.num_eq_zero.symm; rw [h4]; generalize (rq (colA n rs c) bs i x).num = z at *; rcases Int.lt_trichotomy (tt (colA n rs c) bs i x) 0 with h | h | h
  · have := h2 h; exact ⟨⟨fun _ => h, fun _ => this⟩, ⟨fun _ => by omega, fun _ => by omega⟩, ⟨fun _ => by omega, fun _ => by omega⟩⟩
  · have hz : z = 0 := by
      have e := h4
      have : rq (colA n rs c) bs i x = 0 := by
        rw [rq_shq hne, h, Y8]
      exact h4.1 this
    exact ⟨⟨fun _ => by omega, fun _ => by omega⟩, ⟨fun _ => by omega, fun _ => by omega⟩, ⟨fun _ => h, fun _ => hz⟩⟩
  · have := h3 h; exact ⟨⟨fun _ => by omega, fun _ => by omega⟩, ⟨fun _ => h, fun _ => this⟩, ⟨fun _ => by omega, fun _ => by omega⟩⟩
end
theorem ite_iff {α : Type} {P Q : Prop} [Decidable P] [Decidable Q] {x y : α} (h : P ↔ Q) : (if P then x else y) = if Q then x else y := by
  by_cases hq : Q
  · rw [if_pos (h.2 hq), if_pos hq]
  · rw [if_neg (fun k => hq (h.1 k)), if_neg hq]
theorem cmpQ_zero {p q : Rat} : cmpQ p q = 0 ↔ ¬ p < q ∧ ¬ q < p := by
  have h1 := cmpQ_neg (p := p) (q := q); have h2 := cmpQ_le_iff (p := p) (q := q); rw [← Rat.not_lt] at h2; rw [← h1, ← h2]; omega
theorem div_cmp {a b p q : Int} (hp : 0 < p) (hq : 0 < q) : ((a : Rat) / (p : Rat) < (b : Rat) / (q : Rat)) ↔ a * q < b * p := by
  have hp' : (0 : Rat) < (p : Rat) := Rat.intCast_pos.2 hp; have hq' : (0 : Rat) < (q : Rat) := Rat.intCast_pos.2 hq
  have e : (b : Rat) / (q : Rat) * (p : Rat) = ((b * p : Int) : Rat) / (q : Rat) := by
    rw [Rat.intCast_mul]; have := Rat.ne_of_gt hq'; grind
  rw [Rat.div_lt_iff hp', e, Rat.lt_div_iff hq', ← Rat.intCast_mul, Rat.intCast_lt_intCast]
section
variable {n : Nat} {rs : List Rw} {c : List Int} {bs : List Nat} {W : Nat} {T : Tv}
theorem rq_div {A : Nat → Vec} (hne : dD A bs ≠ 0) {i : Nat} {x y : Vec} (hy : tt A bs i y ≠ 0) : rq A bs i x / rq A bs i y = ((tt A bs i x : Int) : Rat) / ((tt A bs i y : Int) : Rat) := by
  unfold tt at hy ⊢; unfold rq; rw [Rat.intCast_mul, Rat.intCast_mul]; have h1 := ratc_ne hne; have h2 : (((dD A bs).sign : Int) : Rat) ≠ 0 := ratc_ne (fun e => by have := sgn_sq hne; rw [e] at this; simp at this); have h3 : ((dT A bs i y : Int) : Rat) ≠ 0 := ratc_ne (fun e => hy (by rw [e]; exact Int.mul_zero _)); generalize ((dD A bs : Int) : Rat) = d at *; generalize (((dD A bs).sign : Int) : Rat) = s at *; generalize ((dT A bs i x : Int) : Rat) = u at *; generalize ((dT A bs i y : Int) : Rat) = v at *
  grind
theorem Ph.lev_eq (h : Ph n rs c W T bs) (hW : W ≤ n + rs.length + 1) {e : Nat} (he : e < T.col.length) (g : Nat) : ∀ i, i ≤ rs.length →
    levR (tst n rs c g bs) (T.col.getD e 0).toNat (n + rs.length + 1) i = levS T e i
  | 0, _ => rfl
  | i + 1, hi => by
    have ih := h.lev_eq hW he g i (by omega)
    have hV := h.good.view
    have hne := h.bas.ne
    have hrm := hV.rm
    have hcW := h.good.cov.col e he
    have hce := hV.colv e
    obtain ⟨s, hs⟩ : ∃ s : Nat, T.col.getD e 0 = s := ⟨(T.col.getD e 0).toNat, by omega⟩
    rw [hs, Int.toNat_natCast] at ih ⊢
    have bd := levS_bd T e i
    have hat : ∀ k, k < rs.length → T.at k e = tt (colA n rs c) bs k (colA n rs c s) := fun k hk => by
      rw [hV.num k (by omega) e he, hs, Int.toNat_natCast]
    have hq : ∀ k, k < rs.length → T.at k T.col.length = tt (colA n rs c) bs k (rhsQ rs) := fun k hk => hV.rhs k (by omega)
    have hX : ∀ k, k < rs.length → (tst n rs c g bs).at k s = rq (colA n rs c) bs k (colA n rs c s) := fun k hk => by
      rw [tst_at hk (by omega), vcA_lo (by omega)]
    have hY : ∀ k, k < rs.length → (tst n rs c g bs).at k (n + rs.length + 1) = rq (colA n rs c) bs k (rhsQ rs) := fun k hk => by
      rw [tst_at hk (by omega), vcA_hi]
    have hpos : ∀ k, k < rs.length → (0 < ((tst n rs c g bs).at k s).num ↔ 0 < T.at k e) := fun k hk => by
      rw [hX k hk, hat k hk]; exact (rq_sign hne k _).2.1
    have hrat : ∀ k, k < rs.length → 0 < T.at k e → ratR (tst n rs c g bs) s (n + rs.length + 1) k = ((T.at k T.col.length : Int) : Rat) / ((T.at k e : Int) : Rat) := fun k hk hp => by
      unfold ratR
      rw [hX k hk, hY k hk, hat k hk, hq k hk]
      exact rq_div hne (by rw [← hat k hk]; omega)
    have hb : ∀ k, k < rs.length → (tst n rs c g bs).bas.getD k 0 = T.bas.getD k 0 := fun k hk => by rw [tst_bas hk, hV.basv k hk]
    simp only [levR, levS]
    rw [ih]
    by_cases h1 : T.at i e ≤ 0
    · rw [if_pos (by rw [hpos i (by omega)]; omega), if_pos h1]
    · rw [if_neg (by rw [Classical.not_not, hpos i (by omega)]; omega), if_neg h1]
      by_cases h2 : levS T e i < 0
      · rw [if_pos h2, if_pos h2]
      · rw [if_neg h2, if_neg h2]
        have hl := levS_hit (show 0 ≤ levS T e i by omega)
        obtain ⟨l, hll⟩ : ∃ l : Nat, levS T e i = l := ⟨(levS T e i).toNat, by omega⟩
        rw [hll] at hl bd
        have hll2 : (levS T e i).toNat = l := by omega
        simp only [Int.toNat_natCast] at hl
        have hp := hl.1
        have key : (cmpQ (ratR (tst n rs c g bs) s (n + rs.length + 1) i) (ratR (tst n rs c g bs) s (n + rs.length + 1) (levS T e i).toNat) < 0 ∨ (cmpQ (ratR (tst n rs c g bs) s (n + rs.length + 1) i) (ratR (tst n rs c g bs) s (n + rs.length + 1) (levS T e i).toNat) = 0 ∧ (tst n rs c g bs).bas.getD i 0 < (tst n rs c g bs).bas.getD (levS T e i).toNat 0)) ↔
            (T.at i T.col.length * T.at (levS T e i).toNat e + -(T.at (levS T e i).toNat T.col.length * T.at i e) < 0 ∨ (T.at i T.col.length * T.at (levS T e i).toNat e + -(T.at (levS T e i).toNat T.col.length * T.at i e) = 0 ∧ T.bas.getD i 0 < T.bas.getD (levS T e i).toNat 0)) := by
          rw [hll2, hrat i (by omega) (by omega), hrat l (by omega) hp, hb i (by omega), hb l (by omega)]; have c1 := div_cmp (a := T.at i T.col.length) (b := T.at l T.col.length) (p := T.at i e) (q := T.at l e) (by omega) hp; have c2 := div_cmp (a := T.at l T.col.length) (b := T.at i T.col.length) (p := T.at l e) (q := T.at i e) hp (by omega); rw [cmpQ_neg, cmpQ_zero, c1, c2]; generalize T.at i T.col.length * T.at l e = x; generalize T.at l T.col.length * T.at i e = y
          have e1 : (x + -y < 0) ↔ x < y := by omega
          have e2 : (x + -y = 0) ↔ (¬ x < y ∧ ¬ y < x) := by omega
          rw [e1, e2]
        exact ite_iff key
theorem goal_at {g v : Nat} (hv : v ≤ n + rs.length) : (tst n rs c g bs).goal.getD v 0 = rq (colA n rs c) bs g (colA n rs c v) := by
  show (rowQ n rs c bs g).getD v 0 = _; rw [Z8 (by omega), vcA_lo hv]
theorem Ph.ent (h : Ph n rs c W T bs) (hW : W ≤ n + rs.length + 1) {g : Nat} (hg : rs.length ≤ g) (hgT : g < T.rows.length) (he : 0 ≤ en g T) : Ent1 (tst n rs c g bs) W (T.col.getD (en g T).toNat 0).toNat := by
  have b1 := en_bd g T; have eh := entS_hit (show 0 ≤ entS (T.rows.getD g []) T.col T.col.length from he); obtain ⟨e, hee⟩ : ∃ e : Nat, en g T = e := ⟨(en g T).toNat, by omega⟩; rw [show entS (T.rows.getD g []) T.col T.col.length = en g T from rfl, hee] at eh; rw [hee]; simp only [Int.toNat_natCast] at eh ⊢; have hV := h.good.view
  have heT : e < T.col.length := by omega
  have hce := hV.colv e; have hcW := h.good.cov.col e heT; have hrM := hV.rM; refine ⟨by omega, ?_, fun v hv => ?_⟩
  · rw [goal_at (by omega), (rq_sign h.bas.ne g _).1, ← hV.num g hgT e heT]; exact eh.1
  · rw [goal_at (by omega), (rq_sign h.bas.ne g _).1]; rcases h.good.cov.all v (by omega) with ⟨i, hi, hb⟩ | ⟨j, hj, hb⟩
    · rw [← hb, Yy hV.bas.len (by omega) (by omega) (by omega)]; decide
    · have h1 := hV.num g hgT j hj; rw [hb, Int.toNat_natCast] at h1; rw [← h1]; intro h2; have := eh.2 j hj h2; omega
theorem Ph.ent_none (h : Ph n rs c W T bs) (hW : W ≤ n + rs.length + 1) {g : Nat} (hg : rs.length ≤ g) (hgT : g < T.rows.length) (he : en g T < 0) : ∀ j, j < W → ¬ ((tst n rs c g bs).goal.getD j 0).num < 0 := fun v hv => by
  have hV := h.good.view
  have hrM := hV.rM
  rw [goal_at (by omega), (rq_sign h.bas.ne g _).1]
  rcases h.good.cov.all v hv with ⟨i, hi, hb⟩ | ⟨j, hj, hb⟩
  · rw [← hb, Yy hV.bas.len (by omega) (by omega) (by omega)]; decide
  · have h1 := hV.num g hgT j hj
    rw [hb, Int.toNat_natCast] at h1
    rw [← h1]
    have := entS_none he j hj
    exact Int.not_lt.2 this
theorem Ph.nx (h : Ph n rs c W T bs) (hL : LpOk n rs c) {g : Nat} (hg : rs.length ≤ g) (hgT : g < T.rows.length) (hn : ¬ stop g T) : Ph n rs c W (nx g (T, bs)).1 (nx g (T, bs)).2 := by
  have hlen := h.bas.len; have b2 := lv_bd g T; have hV := h.good.view; rw [hV.basl] at b2
  have hl0 : 0 ≤ lv g T := by unfold stop at hn; omega
  refine ⟨h.good.pvt (lp_sys hL) hg hgT hn, ?_, ?_⟩
  · show (bs.set (lv g T).toNat _).getD _ 0 = _; rw [getD_set' (by omega), if_neg (by omega)]; exact h.z
  · show (bs.set (lv g T).toNat _).getD _ 0 = _; rw [getD_set' (by omega), if_neg (by omega)]; exact h.w
def sOf (g : Nat) (T : Tv) : Int := if en g T < 0 then -1 else T.col.getD (en g T).toNat 0
theorem imp_it (hL : LpOk n rs c) (hm : rs.length ≤ 6) (hW : W ≤ n + rs.length + 1) {g : Nat} (hg : rs.length ≤ g) (hgM : g < rs.length + 2) : ∀ (k : Nat) (x : Tv × List Nat), Ph n rs c W x.1 x.2 → g < x.1.rows.length → (∀ j, j < k → ¬ stop g (it g j x).1) → stop g (it g k x).1 →
    ImpRun (n + rs.length + 2) W (n + rs.length + 1) (tst n rs c g (it g k x).2) (sOf g (it g k x).1) k (tst n rs c g x.2)
  | 0, (T, bs), h, hgT, _, hs => by
    have h : Ph n rs c W T bs := h
    have hgT : g < T.rows.length := hgT
    refine ⟨tst_tok hL hm h.bas.len h.bas.ne hgM, rfl, ?_⟩
    show (sOf g T = -1 ∧ _) ∨ _
    have hs : stop g T := hs
    by_cases he : en g T < 0
    · exact .inl ⟨if_pos he, h.ent_none hW hg hgT he⟩
    · have hl : lv g T < 0 := by unfold stop at hs; omega
      have b1 := en_bd g T
      have hce := h.good.view.colv (en g T).toNat
      have hcW := h.good.cov.col (en g T).toNat (by omega)
      refine .inr ⟨(T.col.getD (en g T).toNat 0).toNat, ?_, h.ent hW hg hgT (by omega), ?_⟩
      · show sOf g T = _
        rw [show sOf g T = _ from if_neg he]; omega
      · rw [Zt, h.lev_eq hW (by omega) g _ (Nat.le_refl _)]
        have : levS T (en g T).toNat T.bas.length < 0 := hl
        rw [h.good.view.basl] at this
        exact this
  | k + 1, (T, bs), h, hgT, hn, hs => by
    have h : Ph n rs c W T bs := h
    have hgT : g < T.rows.length := hgT
    have h0 : ¬ stop g T := hn 0 (by omega)
    have he : 0 ≤ en g T := by unfold stop at h0; omega
    have hl : 0 ≤ lv g T := by unfold stop at h0; omega
    have b1 := en_bd g T
    have b2 := lv_bd g T
    have hV := h.good.view
    have hce := hV.colv (en g T).toNat
    have hcW := h.good.cov.col (en g T).toNat (by omega)
    have el : levR (tst n rs c g bs) (T.col.getD (en g T).toNat 0).toNat (n + rs.length + 1) (tst n rs c g bs).rows.length = lv g T := by
      rw [Zt, h.lev_eq hW (by omega) g _ (Nat.le_refl _), ← hV.basl]; rfl
    rw [hV.basl] at b2
    have hlr : (lv g T).toNat < rs.length := by omega
    have hsn : (T.col.getD (en g T).toNat 0).toNat ≤ n + rs.length := by omega
    have hp : 0 < tt (colA n rs c) bs (lv g T).toNat (colA n rs c (T.col.getD (en g T).toNat 0).toNat) := (h.good.step (lp_sys hL) hg hgT h0).lev; refine ⟨tst_tok hL hm h.bas.len h.bas.ne hgM, (T.col.getD (en g T).toNat 0).toNat, tst n rs c g (nx g (T, bs)).2, h.ent hW hg hgT he, by rw [el]; exact hl, ?_, ?_, imp_it hL hm hW hg hgM k (nx g (T, bs)) (h.nx hL hg hgT h0) (by rw [nx_rows]; exact hgT) (fun j hj => hn (j + 1) (by omega)) hs⟩
    · rw [el]
      refine tst_piv hL hm h.bas hg hgM hlr hsn fun e => ?_
      have := (rq_sign h.bas.ne (lv g T).toNat (colA n rs c (T.col.getD (en g T).toNat 0).toNat)).2.2.1 e; omega
    · rw [el]; exact tst_bas_set h.bas.len hlr
def EndR (n : Nat) (rs : List Rw) (c : List Int) (g W : Nat) (bs : List Nat) (s : Int) : Prop :=
  (s = -1 ∧ ∀ v, v < W → 0 ≤ tt (colA n rs c) bs g (colA n rs c v)) ∨ ∃ e : Nat, s = e ∧ e < W ∧ (∀ k, k < rs.length → bs.getD k 0 ≠ e) ∧ tt (colA n rs c) bs g (colA n rs c e) < 0 ∧ ∀ i, i < rs.length → tt (colA n rs c) bs i (colA n rs c e) ≤ 0
theorem Ph.imp (h : Ph n rs c W T bs) (hL : LpOk n rs c) (hm : rs.length ≤ 6) (hW1 : n + rs.length ≤ W) (hW : W ≤ n + rs.length + 1) {g : Nat} (hg : rs.length ≤ g) (hgM : g < rs.length + 2) (hgT : g < T.rows.length) :
    ∃ k T' bs' s, ImpRun (n + rs.length + 2) W (n + rs.length + 1) (tst n rs c g bs') s k (tst n rs c g bs) ∧ Ph n rs c W T' bs' ∧ EndR n rs c g W bs' s ∧ T'.rows.length = T.rows.length ∧ T'.col.length = T.col.length := by
  have hS := lp_sys hL; have hN := h.small hW1; have hG := h.good
  have hex : ∃ k, stop g (it g k (T, bs)).1 := by
    refine Classical.byContradiction fun hno => ?_
    have hn : ∀ k, ¬ stop g (it g k (T, bs)).1 := fun k hk => hno ⟨k, hk⟩
    have hI := fun k => it_ok (W := W) hS hg k (T, bs) hG hgT (fun j _ => hn j)
    have R : Run (colA n rs c) (Vok (rs.length + 2)) (rs.length + 2) rs.length g (rhsQ rs) (fun v => v < W) (W + (rs.length + 2) + 2) (fun k => (it g k (T, bs)).2) (fun k => (lv g (it g k (T, bs)).1).toNat) (fun k => ((it g k (T, bs)).1.col.getD (en g (it g k (T, bs)).1).toNat 0).toNat) :=
      ⟨hG.view.bas, hG.feas, hS.hq, hS.hA, hg, by omega, fun k => (hI k).1.step hS hg (by rw [(hI k).2.1]; exact hgT) (hn k), fun k => by show (it g (k + 1) (T, bs)).2 = _; rw [it_succ]; rfl, hN, fun v hv => by omega⟩
    exact R.no
  obtain ⟨k, hk, hkl⟩ := least hex; obtain ⟨a1, a2, a3⟩ := it_ok (W := W) hS hg k (T, bs) hG hgT hkl
  have hcl : (it g k (T, bs)).1.col.length = T.col.length := by
    obtain ⟨s, hs1, hs2⟩ := a1.endp hg (by rw [a2]; exact hgT) hk; exact (it_run hS hg k (T, bs) hG hgT hkl hs2).lens.2.2
  have hP : Ph n rs c W (it g k (T, bs)).1 (it g k (T, bs)).2 := ⟨a1, by rw [a3 _ (Nat.le_refl _)]; exact h.z, by rw [a3 _ (by omega)]; exact h.w⟩; refine ⟨k, _, _, _, imp_it hL hm hW hg hgM k (T, bs) h hgT hkl hk, hP, ?_, a2, hcl⟩; obtain ⟨s, hE, hs⟩ := a1.endp hg (by rw [a2]; exact hgT) hk; rcases hs with ⟨he, hs⟩ | ⟨he, hl, hs⟩
  · refine .inl ⟨if_pos he, ?_⟩; rcases hE with ⟨_, h1⟩ | ⟨e, h2, _⟩
    · exact h1
    · omega
  · rcases hE with ⟨h2, _⟩ | ⟨e, h2, h3, h4, h5⟩
    · omega
    · have hce := a1.view.colv e; have hcW := a1.cov.col e h3; rw [show (it g k (T, bs)).2 = (it g k (T, bs)).2 from rfl] at h4
      have he2 : (en g (it g k (T, bs)).1).toNat = e := by omega
      refine .inr ⟨((it g k (T, bs)).1.col.getD e 0).toNat, ?_, by omega, fun i hi hb => ?_, h4, h5⟩
      · rw [show sOf g (it g k (T, bs)).1 = _ from if_neg (by omega), he2]; omega
      · exact a1.cov.dis e i h3 hi (by omega)
end
theorem shq_int {b D : Int} (hD : 0 < D) : shq (D * b) D = (b : Rat) := Rat.le_antisymm (shq_le_int hD (Int.le_refl _)) (int_le_shq hD (Int.le_refl _))
section
variable {n : Nat} {rs : List Rw} {c : List Int} {bs : List Nat} {W : Nat} {T : Tv}
theorem rq_bs0 {i : Nat} (hi : i < rs.length + 2) {x : Vec} (hx : Vok (rs.length + 2) x) : rq (colA n rs c) (bs0 n rs.length) i x = ((x i : Int) : Rat) := by
  have h1 := bs0_tt (n := n) (c := c) hi hx; unfold tt at h1; rw [bs0_bas.2, show (1 : Int).sign = 1 from rfl, Int.one_mul] at h1; unfold rq; rw [bs0_bas.2, h1]; show _ / (1 : Rat) = _
  grind
theorem stRow_at (n m i : Nat) (r : Rw) {v : Nat} (hv : v < n + m + 2) : (stRow n m i r).getD v 0 = if n + m + 1 = v then ((r.b : Int) : Rat) else if n + m = v then -1 else if n + i = v then 1 else if v < r.cs.length then ((r.cs.getD v 0 : Int) : Rat) else 0 := by
  unfold stRow cfR; simp only [List.getD_eq_getElem?_getD, List.getElem?_set, List.length_set, List.length_map, List.length_range, List.getElem?_map, List.getElem?_range hv, Option.map_some]; split
  · rw [if_pos (by omega)]; rfl
  · split
    · rw [if_pos (by omega)]; rfl
    · split
      · rw [if_pos (by omega)]; rfl
      · rfl
theorem stRow_len (n m i : Nat) (r : Rw) : (stRow n m i r).length = n + m + 2 := by simp [stRow, cfR]
theorem ext_getD {α : Type} {a b : List α} {z : α} (hl : a.length = b.length) (h : ∀ i, i < a.length → a.getD i z = b.getD i z) : a = b := by
  apply List.ext_getElem hl
  intro i h1 h2; have := h i h1
  simpa [List.getD_eq_getElem?_getD, h1, h2] using this
theorem rowQ_bs0 (hL : LpOk n rs c) {i : Nat} (hi : i < rs.length) : rowQ n rs c (bs0 n rs.length) i = stRow n rs.length i (rs.getD i rw0) := by
  have hrl := hL.rl _ (rs_mem hi)
  refine ext_getD (z := 0) (by rw [YX, stRow_len]) fun v hv => ?_
  rw [YX] at hv; rw [Z8 hv, stRow_at _ _ _ _ hv, rq_bs0 (by omega) (vcA_V v)]; by_cases h1 : n + rs.length + 1 = v
  · rw [if_pos h1, ← h1, vcA_hi]; show ((if i < rs.length then (rs.getD i rw0).b else 0 : Int) : Rat) = _; rw [if_pos hi]
  · rw [if_neg h1, vcA_lo (by omega)]; by_cases h2 : n + rs.length = v
    · rw [if_pos h2, ← h2, colA_art]; simp only; rw [if_pos hi]; rfl
    · rw [if_neg h2]; by_cases h3 : v < n
      · rw [if_neg (by omega), YW h3, if_pos hi]; by_cases h4 : v < (rs.getD i rw0).cs.length
        · rw [if_pos h4]
        · rw [if_neg h4, getD_ge (by omega)]; rfl
      · obtain ⟨k, rfl⟩ : ∃ k, v = n + k := ⟨v - n, by omega⟩; rw [Zo (by omega)]; unfold Go.Det.unit; by_cases h4 : i = k
        · rw [if_pos (by omega)]; simp [h4]
        · rw [if_neg (show ¬ n + i = n + k by omega), if_neg (show ¬ n + k < (rs.getD i rw0).cs.length by omega), if_neg h4]; rfl
theorem tst_bs0_rows (hL : LpOk n rs c) (g : Nat) : (tst n rs c g (bs0 n rs.length)).rows = stRows n rs := by
  unfold tst stRows
  exact List.map_congr_left fun i hi => rowQ_bs0 hL (List.mem_range.1 hi)
theorem tst_bs0_bas (g : Nat) : (tst n rs c g (bs0 n rs.length)).bas = rng n rs.length := by
  unfold tst rng
  exact List.map_congr_left fun i hi => by rw [bs0_lo (List.mem_range.1 hi)]
theorem rowQ_bs0_w : rowQ n rs c (bs0 n rs.length) (rs.length + 1) = (List.replicate (n + rs.length + 2) (0 : Rat)).set (n + rs.length) 1 := by
  refine ext_getD (z := 0) (by rw [YX]; simp) fun v hv => ?_
  rw [YX] at hv; rw [Z8 hv, rq_bs0 (by omega) (vcA_V v)]; simp only [List.getD_eq_getElem?_getD, List.getElem?_set, List.length_replicate, List.getElem?_replicate, if_pos hv]; by_cases h1 : v = n + rs.length + 1
  · rw [if_neg (by omega), h1, vcA_hi]; show ((if rs.length + 1 < rs.length then (rs.getD (rs.length + 1) rw0).b else 0 : Int) : Rat) = _; rw [if_neg (by omega)]; rfl
  · rw [vcA_lo (by omega)]; by_cases h2 : n + rs.length = v
    · rw [if_pos h2, if_pos (by omega), ← h2, colA_art_w]; rfl
    · rw [if_neg h2, colA_w0 (by omega)]; rfl
def g0 (n : Nat) (rs : List Rw) (c : List Int) (v : Nat) : Int := vcA n rs c v rs.length
def goalK (n : Nat) (rs : List Rw) (c : List Int) (bs : List Nat) : Nat → List Rat
  | 0 => (List.range (n + rs.length + 2)).map fun v => ((g0 n rs c v : Int) : Rat)
  | k + 1 => (List.range (n + rs.length + 2)).map fun v => (goalK n rs c bs k).getD v 0 - ((g0 n rs c (bs.getD k 0) : Int) : Rat) * rq (colA n rs c) bs k (vcA n rs c v)
theorem Yr (k : Nat) : (goalK n rs c bs k).length = n + rs.length + 2 := by cases k <;> simp [goalK]
def offS (n : Nat) (rs : List Rw) (c : List Int) (bs : List Nat) (x : Vec) (k : Nat) : Int := sm (fun i => tt (colA n rs c) bs i x * colA n rs c (bs.getD i 0) rs.length) k
theorem goalK_at (hne : dD (colA n rs c) bs ≠ 0) : ∀ (k : Nat) {v : Nat}, v < n + rs.length + 2 → (∀ i, i < k → vcA n rs c (bs.getD i 0) = colA n rs c (bs.getD i 0)) → (goalK n rs c bs k).getD v 0 = shq (Go.Det.den (colA n rs c) bs * g0 n rs c v - offS n rs c bs (vcA n rs c v) k) (Go.Det.den (colA n rs c) bs)
  | 0, v, hv, _ => by
    show (List.map _ _).getD v 0 = _
    simp only [List.getD_eq_getElem?_getD, List.getElem?_map, List.getElem?_range hv, Option.map_some, Option.getD_some]
    rw [show offS n rs c bs (vcA n rs c v) 0 = 0 from rfl, Int.sub_zero, shq_int (den_pos hne)]
  | k + 1, v, hv, hb => by
    have ih := goalK_at hne k hv fun i hi => hb i (by omega)
    show (List.map _ _).getD v 0 = _
    simp only [List.getD_eq_getElem?_getD, List.getElem?_map, List.getElem?_range hv, Option.map_some, Option.getD_some]
    rw [← List.getD_eq_getElem?_getD, ih, rq_shq hne, ← List.getD_eq_getElem?_getD]
    have e1 : offS n rs c bs (vcA n rs c v) (k + 1) = offS n rs c bs (vcA n rs c v) k + tt (colA n rs c) bs k (vcA n rs c v) * g0 n rs c (bs.getD k 0) := by
      unfold g0; rw [hb k (by omega)]; rfl
    rw [e1]; generalize Go.Det.den (colA n rs c) bs * g0 n rs c v = x; generalize offS n rs c bs (vcA n rs c v) k = y; generalize tt (colA n rs c) bs k (vcA n rs c v) = t; generalize g0 n rs c (bs.getD k 0) = g
    have e2 : x - (y + t * g) = (x - y) + (-g) * t := by grind
    rw [e2, shq_add, shq_mul, Rat.intCast_neg]
    grind
theorem Ph.vc (h : Ph n rs c W T bs) (hW : W ≤ n + rs.length + 1) {i : Nat} (hi : i < rs.length) : bs.getD i 0 ≤ n + rs.length ∧ vcA n rs c (bs.getD i 0) = colA n rs c (bs.getD i 0) := by
  have := h.good.cov.bas i hi; exact ⟨by omega, vcA_lo (by omega)⟩
theorem Ph.goal_all (h : Ph n rs c W T bs) (hW : W ≤ n + rs.length + 1) : goalK n rs c bs rs.length = rowQ n rs c bs rs.length := by
  have hne := h.bas.ne
  refine ext_getD (z := 0) (by rw [Yr, YX]) fun v hv => ?_
  rw [Yr] at hv; rw [goalK_at hne _ hv fun i hi => (h.vc hW hi).2, Z8 hv, rq_shq hne]
  congr 1
  have hc := h.comp (vcA_V (n := n) (rs := rs) (c := c) v) rs.length; simp only [sm] at hc; rw [h.z, h.w, colA_z, colA_w] at hc; have e1 : Go.Det.unit rs.length rs.length = 1 := if_pos J; have e2 : Go.Det.unit (rs.length + 1) rs.length = 0 := if_neg (by omega); rw [e1, e2] at hc; unfold g0 offS; rw [hc]; grind
theorem Ph.goal_own (h : Ph n rs c W T bs) (hW : W ≤ n + rs.length + 1) {k : Nat} (hk : k < rs.length) : (goalK n rs c bs k).getD (bs.getD k 0) 0 = ((g0 n rs c (bs.getD k 0) : Int) : Rat) := by
  have hne := h.bas.ne; have hv := h.vc hW hk; rw [goalK_at hne _ (by omega) fun i hi => (h.vc hW (by omega)).2]
  have : offS n rs c bs (vcA n rs c (bs.getD k 0)) k = 0 := Z4 fun i hi => by
    rw [hv.2, Yy h.bas.len (by omega) (by omega) (by omega), Int.zero_mul]
  rw [this, Int.sub_zero, shq_int (den_pos hne)]
theorem goal_next (k : Nat) : goalK n rs c bs (k + 1) = (List.range (goalK n rs c bs k).length).map (lessV (goalK n rs c bs k) ((g0 n rs c (bs.getD k 0) : Int) : Rat) (rowQ n rs c bs k)) := by
  rw [Yr]; show List.map _ _ = _
  refine List.map_congr_left fun v hv => ?_
  unfold lessV; rw [Z8 (List.mem_range.1 hv)]
theorem goal_skip {k : Nat} (hz : g0 n rs c (bs.getD k 0) = 0) : goalK n rs c bs (k + 1) = goalK n rs c bs k := by
  refine ext_getD (z := 0) (by rw [Yr, Yr]) fun v hv => ?_
  rw [Yr] at hv; show (List.map _ _).getD v 0 = _; simp only [List.getD_eq_getElem?_getD, List.getElem?_map, List.getElem?_range hv, Option.map_some, Option.getD_some]; rw [← List.getD_eq_getElem?_getD, ← List.getD_eq_getElem?_getD, hz]; show _ - (0 : Rat) * _ = _
  grind
theorem goal_zero (hL : LpOk n rs c) : goalK n rs c bs 0 = cfR (c.map fun x => -x) (n + rs.length + 2) c.length := by
  have hcl := hL.cl; show List.map _ _ = List.map _ _
  refine List.map_congr_left fun v hv => ?_
  have hv := List.mem_range.1 hv; unfold g0; by_cases h1 : v = n + rs.length + 1
  · rw [if_neg (by omega), h1, vcA_hi]; show ((if rs.length < rs.length then (rs.getD rs.length rw0).b else 0 : Int) : Rat) = _; rw [if_neg (by omega)]; rfl
  · rw [vcA_lo (by omega)]; by_cases h2 : v < n
    · rw [YW h2, if_neg (by omega), if_pos J, neg_getD]; by_cases h3 : v < c.length
      · rw [if_pos h3]
      · rw [if_neg h3, getD_ge (by omega)]; rfl
    · rw [if_neg (by omega)]; by_cases h3 : v = n + rs.length
      · rw [h3, colA_art]; simp only; rw [if_neg (by omega), if_neg (by omega)]; rfl
      · obtain ⟨k, rfl⟩ : ∃ k, v = n + k := ⟨v - n, by omega⟩; rw [Zo (by omega), show Go.Det.unit k rs.length = 0 from if_neg (by omega)]; rfl
theorem Kt10 {m : Nat} (h : m ≤ 6) : 7 * (Kt m * 1048576) < 1073741824 ^ 9 := by
  have : m = 0 ∨ m = 1 ∨ m = 2 ∨ m = 3 ∨ m = 4 ∨ m = 5 ∨ m = 6 := by omega
  rcases this with rfl | rfl | rfl | rfl | rfl | rfl | rfl <;> decide +kernel
theorem goalK_Q9 (hL : LpOk n rs c) (hm : rs.length ≤ 6) (hl : bs.length = rs.length + 2) (hne : dD (colA n rs c) bs ≠ 0) {k : Nat} (hk : k ≤ rs.length) (hb : ∀ i, i < k → vcA n rs c (bs.getD i 0) = colA n rs c (bs.getD i 0)) : ∀ x ∈ goalK n rs c bs k, Q9 x := fun x hx => by
  obtain ⟨v, hv, rfl⟩ := List.getElem_of_mem hx
  have hv' := hv
  rw [Yr] at hv'
  have e := goalK_at hne k hv' hb
  rw [List.getD_eq_getElem?_getD, List.getElem?_eq_getElem hv, Option.getD_some] at e
  rw [e]
  have hd := den_pos hne
  have hK := Kt9 hm
  have h2 := tt_Kt hL (i := rs.length) hl (by omega) (.inr ⟨bs.getD rs.length 0, rfl⟩)
  rw [tt_own hl (by omega)] at h2
  have hg : (g0 n rs c v).natAbs ≤ 1048576 := by
    unfold g0; rcases vcA_or (n := n) (rs := rs) (c := c) v with e | ⟨u, e⟩
    · rw [e]; show (if rs.length < rs.length then (rs.getD rs.length rw0).b else 0 : Int).natAbs ≤ _; rw [if_neg (by omega)]; decide
    · rw [e]; exact colA_bd hL u _
  have h3 : (offS n rs c bs (vcA n rs c v) k).natAbs ≤ k * (Kt rs.length * 1048576) := sm_natAbs fun i hi => by
    rw [Int.natAbs_mul]; exact Nat.mul_le_mul (tt_Kt hL hl (by omega) (vcA_or v)) (colA_bd hL _ _)
  have h4 : (Go.Det.den (colA n rs c) bs * g0 n rs c v).natAbs ≤ Kt rs.length * 1048576 := by
    rw [Int.natAbs_mul]; exact Nat.mul_le_mul h2 hg
  have h5 : k * (Kt rs.length * 1048576) ≤ 6 * (Kt rs.length * 1048576) := Nat.mul_le_mul_right _ (by omega); have h6 := Kt10 hm; obtain ⟨l1, l2⟩ := mk_le (Go.Det.den (colA n rs c) bs * g0 n rs c v - offS n rs c bs (vcA n rs c v) k) (Go.Det.den (colA n rs c) bs).natAbs (by omega); exact ⟨Qg (Nat.lt_of_le_of_lt l1 (by omega)), Qg (Nat.lt_of_le_of_lt l2 (by omega))⟩
end
def wrR (rs : List Rw) : Nat → Int
  | 0 => -1
  | i + 1 => if (rs.getD i rw0).b < 0 ∧ (wrR rs i < 0 ∨ (rs.getD i rw0).b < (rs.getD (wrR rs i).toNat rw0).b) then i else wrR rs i
theorem wrR_bd (rs : List Rw) : ∀ i, -1 ≤ wrR rs i ∧ wrR rs i < i
  | 0 => by simp [wrR]
  | i + 1 => by
    have := wrR_bd rs i
    simp only [wrR]
    split <;> omega
theorem rset_ne {l : List Rat} {i j : Nat} {x : Rat} (h : i ≠ j) : (l.set i x).getD j 0 = l.getD j 0 := by simp [List.getD_eq_getElem?_getD, List.getElem?_set, h]
section
variable {n : Nat} {rs : List Rw} {c : List Int} {bs : List Nat} {W : Nat} {T : Tv}
theorem Beg.wr_eq (h : Beg n rs c T) : ∀ i, i ≤ rs.length → wrR rs i = wrS T i
  | 0, _ => rfl
  | i + 1, hi => by
    have ih := h.wr_eq i (by omega)
    have hV := h.view
    have hl := h.len
    have e : ∀ k, k < rs.length → T.at k T.col.length = (rs.getD k rw0).b := fun k hk => by
      rw [hV.rhs k (by omega), bs0_tt (by omega) JZ]
      exact if_pos hk
    have bd := wrS_bd T i
    simp only [wrR, wrS]
    rw [ih]
    refine ite_iff ?_
    rw [e i (by omega)]
    by_cases h1 : wrS T i < 0
    · simp only [h1, true_or]
    · rw [e _ (by omega)]
      omega
def dvJ (n : Nat) (rs : List Rw) (c : List Int) (bs : List Nat) (i : Nat) : Nat := (List.range (n + rs.length)).findIdx fun j => decide (rq (colA n rs c) bs i (colA n rs c j) ≠ 0)
def dv (n : Nat) (rs : List Rw) (c : List Int) (bs : List Nat) : Nat → List Nat
  | 0 => bs
  | i + 1 => if (dv n rs c bs i).getD i 0 = n + rs.length then (dv n rs c bs i).set i (dvJ n rs c (dv n rs c bs i) i) else dv n rs c bs i
theorem dvJ_least {i j : Nat} (h : j < dvJ n rs c bs i) : rq (colA n rs c) bs i (colA n rs c j) = 0 := by
  have h1 := List.not_of_lt_findIdx h
  have h2 : dvJ n rs c bs i ≤ n + rs.length := by
    unfold dvJ; have := List.findIdx_le_length (xs := List.range (n + rs.length)) (p := fun j => decide (rq (colA n rs c) bs i (colA n rs c j) ≠ 0)); simpa using this
  simpa using h1
theorem dvJ_hit {i j : Nat} (hj : j < n + rs.length) (h : rq (colA n rs c) bs i (colA n rs c j) ≠ 0) : dvJ n rs c bs i < n + rs.length ∧ rq (colA n rs c) bs i (colA n rs c (dvJ n rs c bs i)) ≠ 0 := by
  have h1 : dvJ n rs c bs i < n + rs.length := by
    refine Classical.byContradiction fun h2 => h (dvJ_least (by omega))
  refine ⟨h1, ?_⟩
  have h3 : dvJ n rs c bs i < (List.range (n + rs.length)).length := by simpa using h1
  have := List.findIdx_getElem (xs := List.range (n + rs.length)) (p := fun j => decide (rq (colA n rs c) bs i (colA n rs c j) ≠ 0)) (w := h3); have h4 : rq (colA n rs c) bs i (colA n rs c ((List.range (n + rs.length))[dvJ n rs c bs i]'h3)) ≠ 0 := of_decide_eq_true this; have e : (List.range (n + rs.length))[dvJ n rs c bs i]'h3 = dvJ n rs c bs i := List.getElem_range _; rw [e] at h4; exact h4
structure Dr (n : Nat) (rs : List Rw) (c : List Int) (k : Nat) (T : Tv) (bs : List Nat) : Prop where
  ph : Ph n rs c (n + rs.length + 1) T bs
  rows : T.rows.length = rs.length + 2
  col : T.col.length = n + 1
  art : ∀ r, r < rs.length → bs.getD r 0 = n + rs.length → k ≤ r ∧ tt (colA n rs c) bs r (rhsQ rs) = 0
theorem Dr.next (hL : LpOk n rs c) {k : Nat} (hk : k < rs.length) (h : Dr n rs c k T bs) (hb : bs.getD k 0 = n + rs.length) :
    dvJ n rs c bs k < n + rs.length ∧ rq (colA n rs c) bs k (colA n rs c (dvJ n rs c bs k)) ≠ 0 ∧ ∃ T', Dr n rs c (k + 1) T' (bs.set k (dvJ n rs c bs k)) := by
  have hP := h.ph; have hV := hP.good.view; have hne := hP.bas.ne; have hlen := hP.bas.len; obtain ⟨j, hj, hn⟩ := hP.row_ne hk hb; have hce := hV.colv j; have hcW := hP.good.cov.col j hj
  have hn1 : tt (colA n rs c) bs k (colA n rs c (T.col.getD j 0).toNat) ≠ 0 := by
    rw [← hV.num k (by rw [h.rows]; omega) j hj]; exact hn
  have hjl : (T.col.getD j 0).toNat < n + rs.length := by
    have := hP.good.cov.dis j k hj hk; omega
  have hq : rq (colA n rs c) bs k (colA n rs c (T.col.getD j 0).toNat) ≠ 0 := fun e => hn1 ((rq_sign hne k _).2.2.1 e)
  obtain ⟨d1, d2⟩ := dvJ_hit hjl hq; refine ⟨d1, d2, ?_⟩; generalize dvJ n rs c bs k = d at *
  have d3 : tt (colA n rs c) bs k (colA n rs c d) ≠ 0 := fun e => d2 ((rq_sign hne k _).2.2.2 e)
  rcases hP.good.cov.all d (by omega) with ⟨i, hi, he⟩ | ⟨s, hs, he⟩
  · exfalso
    refine d3 ?_
    rw [← he]; exact Yy hlen (by omega) (by omega) (fun e => by rw [e, hb] at he; omega)
  · have e : (T.col.getD s 0).toNat = d := by omega
    have hp : T.at k s ≠ 0 := by rw [hV.num k (by rw [h.rows]; omega) s hs, e]; exact d3
    have := hP.swap hL hk hs hp (h.art k hk hb).2; rw [e] at this; refine ⟨_, this, by rw [Zq]; exact h.rows, by rw [Ze]; exact h.col, fun r hr hbr => ?_⟩; exfalso; rw [getD_set' (by omega)] at hbr; by_cases h1 : k = r
    · rw [if_pos h1] at hbr; omega
    · rw [if_neg h1] at hbr; exact hne (Yh (i := k) (k := r) (by omega) (by omega) (by omega) (by rw [hb, hbr]))
theorem Dr.skip {k : Nat} (h : Dr n rs c k T bs) (hb : bs.getD k 0 ≠ n + rs.length) : Dr n rs c (k + 1) T bs :=
  ⟨h.ph, h.rows, h.col, fun r hr hbr => by
    have := h.art r hr hbr
    refine ⟨?_, this.2⟩
    rcases Nat.lt_or_ge k r with h1 | h1
    · omega
    · exact absurd (show bs.getD k 0 = n + rs.length by rw [show k = r by omega]; exact hbr) hb⟩
theorem Dr.all (hL : LpOk n rs c) (h : Dr n rs c 0 T bs) : ∀ k, k ≤ rs.length → ∃ T', Dr n rs c k T' (dv n rs c bs k)
  | 0, _ => ⟨T, h⟩
  | k + 1, hk => by
    obtain ⟨T', h'⟩ := Dr.all hL h k (by omega)
    simp only [dv]
    split
    · rename_i hb
      exact (h'.next hL (by omega) hb).2.2
    · rename_i hb
      exact ⟨T', h'.skip hb⟩
theorem Dr.cut {k : Nat} (h : Dr n rs c k T bs) (hk : rs.length ≤ k) : ∃ T', Ph n rs c (n + rs.length) T' bs ∧ T'.rows.length = rs.length + 1 := by
  have hna : ∀ i, i < rs.length → bs.getD i 0 ≠ n + rs.length := fun i hi hb => by have := (h.art i hi hb).1; omega
  rcases h.ph.good.cov.all (n + rs.length) (by omega) with ⟨i, hi, he⟩ | ⟨j, hj, he⟩
  · exact absurd he (hna i hi)
  · exact ⟨_, h.ph.cut h.rows hna hj he, by show (delP _ _ _).length = _; rw [delP_len, List.length_take, h.rows]; omega⟩
structure Half2 (n : Nat) (rs : List Rw) (c : List Int) (bs bf : List Nat) (s : Int) : Prop where
  ph : ∃ T, Ph n rs c (n + rs.length) T bs
  run : ∃ k, ImpRun (n + rs.length + 2) (n + rs.length) (n + rs.length + 1) (tst n rs c rs.length bf) s k (tst n rs c rs.length bs)
  phf : ∃ T, Ph n rs c (n + rs.length) T bf
  endr : EndR n rs c rs.length (n + rs.length) bf s
theorem Ph.half (h : Ph n rs c (n + rs.length) T bs) (hL : LpOk n rs c) (hm : rs.length ≤ 6) (hT : rs.length < T.rows.length) : ∃ bf s, Half2 n rs c bs bf s := by
  obtain ⟨k, T', bf, s, h1, h2, h3, _, _⟩ := h.imp hL hm (Nat.le_refl _) (by omega) (g := rs.length) (Nat.le_refl _) (by omega) hT; exact ⟨bf, s, ⟨_, h⟩, ⟨k, h1⟩, ⟨_, h2⟩, h3⟩
def raR (X : TSt) (n j : Nat) : Nat → List Rat
  | 0 => (List.replicate n 0).set j 1
  | i + 1 => if X.bas.getD i 0 < n then (raR X n j i).set (X.bas.getD i 0).toNat (0 - X.at i j) else raR X n j i
theorem raR_len (X : TSt) (n j : Nat) : ∀ i, (raR X n j i).length = n
  | 0 => by simp [raR]
  | i + 1 => by simp only [raR]; split <;> simp [raR_len X n j i]
def oc2 (n : Nat) (rs : List Rw) (c : List Int) (bf : List Nat) (s : Int) : Oc :=
  if 0 ≤ s then ⟨2, frz0, (ptR (tst n rs c rs.length bf) n (n + rs.length + 1) rs.length).map ofQ, (raR (tst n rs c rs.length bf) n s.toNat rs.length).map ofQ, []⟩
  else ⟨1, ofQ ((tst n rs c rs.length bf).goal.getD (n + rs.length + 1) 0), (ptR (tst n rs c rs.length bf) n (n + rs.length + 1) rs.length).map ofQ, [], ((List.range rs.length).map fun i => (tst n rs c rs.length bf).goal.getD (n + i) 0).map ofQ⟩
theorem Ph.ptR_at (h : Ph n rs c (n + rs.length) T bs) {v : Nat} (hv : v < n) (g : Nat) : ∀ i, i ≤ rs.length → (ptR (tst n rs c g bs) n (n + rs.length + 1) i).getD v 0 = shq (sm (fun k => if bs.getD k 0 = v then tt (colA n rs c) bs k (rhsQ rs) else 0) i) (Go.Det.den (colA n rs c) bs)
  | 0, _ => by
    show (List.replicate n (0 : Rat)).getD v 0 = _
    rw [show sm _ 0 = 0 from rfl, Y8]
    simp [List.getD_eq_getElem?_getD, List.getElem?_replicate, hv]
  | i + 1, hi => by
    have ih := h.ptR_at hv g i (by omega)
    have hne := h.bas.ne
    have hlen := h.bas.len
    simp only [ptR, sm]
    rw [tst_bas (by omega), tst_at (by omega) (by omega), vcA_hi, rq_shq hne, Int.toNat_natCast]
    by_cases h1 : bs.getD i 0 = v
    · rw [if_pos (by omega), if_pos h1, h1]
      have hz : sm (fun k => if bs.getD k 0 = v then tt (colA n rs c) bs k (rhsQ rs) else 0) i = 0 := Z4 fun k hk => if_neg fun e => hne (Yh (i := i) (k := k) (by omega) (by omega) (by omega) (by rw [h1, e]))
      rw [hz, Int.zero_add]
      have hl := ptR_len (tst n rs c g bs) n (n + rs.length + 1) i
      simp [List.getD_eq_getElem?_getD, List.getElem?_set, hl, hv]
    · rw [if_neg h1, Int.add_zero, ← ih]
      split
      · rw [rset_ne (by omega)]
      · rfl
theorem Ph.raR_at (h : Ph n rs c (n + rs.length) T bs) {v s : Nat} (hv : v < n) (hs : s < n + rs.length) (g : Nat) : ∀ i, i ≤ rs.length → (∀ k, k < rs.length → bs.getD k 0 ≠ s) → (raR (tst n rs c g bs) n s i).getD v 0 = shq ((if v = s then Go.Det.den (colA n rs c) bs else 0) - sm (fun k => if bs.getD k 0 = v then tt (colA n rs c) bs k (colA n rs c s) else 0) i) (Go.Det.den (colA n rs c) bs)
  | 0, _, _ => by
    have hd := den_pos h.bas.ne
    show ((List.replicate n (0 : Rat)).set s 1).getD v 0 = _
    rw [show sm _ 0 = 0 from rfl, Int.sub_zero]
    by_cases h1 : v = s
    · subst h1
      rw [if_pos rfl]
      have := shq_int (b := 1) hd
      rw [Int.mul_one] at this
      rw [this]
      simp [List.getD_eq_getElem?_getD, hv]
    · rw [if_neg h1, Y8]
      simp [List.getD_eq_getElem?_getD, List.getElem?_set, List.getElem?_replicate, hv, Ne.symm h1]
  | i + 1, hi, hb => by
    have ih := h.raR_at hv hs g i (by omega) hb
    have hne := h.bas.ne
    have hlen := h.bas.len
    simp only [raR, sm]
    rw [tst_bas (by omega), tst_at (by omega) (by omega), vcA_lo (by omega), rq_shq hne, Int.toNat_natCast]
    by_cases h1 : bs.getD i 0 = v
    · rw [if_pos (by omega), if_pos h1, h1]
      have hz : sm (fun k => if bs.getD k 0 = v then tt (colA n rs c) bs k (colA n rs c s) else 0) i = 0 := Z4 fun k hk => if_neg fun e => hne (Yh (i := i) (k := k) (by omega) (by omega) (by omega) (by rw [h1, e]))
      rw [hz, Int.zero_add, if_neg (fun e => hb i (by omega) (by rw [h1, e]))]
      have hl := raR_len (tst n rs c g bs) n s i
      have e0 : (0 : Rat) - shq (tt (colA n rs c) bs i (colA n rs c s)) (Go.Det.den (colA n rs c) bs) = shq (0 - tt (colA n rs c) bs i (colA n rs c s)) (Go.Det.den (colA n rs c) bs) := by
        have := shq_mul (tt (colA n rs c) bs i (colA n rs c s)) (-1) (Go.Det.den (colA n rs c) bs); rw [show (0 : Int) - tt (colA n rs c) bs i (colA n rs c s) = -1 * tt (colA n rs c) bs i (colA n rs c s) by omega, this]; show _ = _ * (-1 : Rat)
        grind
      rw [e0]; simp [List.getD_eq_getElem?_getD, List.getElem?_set, hl, hv]
    · rw [if_neg h1, Int.add_zero, ← ih]; split
      · rw [rset_ne (by omega)]
      · rfl
theorem Half2.sol {bf : List Nat} {s : Int} (h : Half2 n rs c bs bf s) (hL : LpOk n rs c) : Sol n rs c (oc2 n rs c bf s) := by
  obtain ⟨T, hF⟩ := h.phf; have hne := hF.bas.ne; have hlen := hF.bas.len; have hpo := hF.point; have hdK := den_Kt hL hF
  have hvK := fun v => vx_Kt hL hF (.inl J) v
  have hpt : (ptR (tst n rs c rs.length bf) n (n + rs.length + 1) rs.length).map ofQ = ptl n (vx n rs c bf (rhsQ rs)) (Go.Det.den (colA n rs c) bf) := by
    rw [list_range (ptR_len _ n _ _) (fun v hv => hF.ptR_at hv rs.length rs.length (Nat.le_refl _)), List.map_map]; rfl
  rcases h.endr with ⟨hs, h1⟩ | ⟨e, hs, he, hnb, h1, h2⟩
  · have hdu := hF.dual h1
    have hdl : ((List.range rs.length).map fun i => (tst n rs c rs.length bf).goal.getD (n + i) 0).map ofQ = ptl rs.length (yx n rs c bf rs.length) (Go.Det.den (colA n rs c) bf) := by
      rw [List.map_map]
      refine List.map_congr_left fun i hi => ?_
      have hi := List.mem_range.1 hi; show ofQ ((tst n rs c rs.length bf).goal.getD (n + i) 0) = ofQ _; rw [goal_at (by omega), rq_shq hne]; rfl
    have hval : (tst n rs c rs.length bf).goal.getD (n + rs.length + 1) 0 = shq (tt (colA n rs c) bf rs.length (rhsQ rs)) (Go.Det.den (colA n rs c) bf) := by
      show (rowQ n rs c bf rs.length).getD _ 0 = _; rw [Z8 (by omega), vcA_hi, rq_shq hne]
    unfold oc2; rw [if_neg (by rw [hs]; decide), hpt, hdl, hval]; exact .opt _ _ _ _ hpo.1 hpo.2 hdu.1 hdu.2 hdK (fun v _ => hvK v) (fun i _ => tt_Kt hL hlen (by omega) (.inr ⟨_, rfl⟩)) (tt_Kt hL hlen (by omega) (.inl J))
  · have hra := hF.ray he hnb h1 h2
    have hrl : (raR (tst n rs c rs.length bf) n e rs.length).map ofQ = ptl n (zx n rs c bf e) (Go.Det.den (colA n rs c) bf) := by
      rw [list_range (raR_len _ n e _) (fun v hv => hF.raR_at hv he rs.length rs.length (Nat.le_refl _) hnb), List.map_map]; rfl
    unfold oc2; rw [if_pos (by omega), hpt, hs, Int.toNat_natCast, hrl]; refine .unb _ _ _ hpo.1 hra hdK (fun v _ => hvK v) (fun v _ => ?_); have hb := vx_Kt hL hF (x := colA n rs c e) (.inr ⟨_, rfl⟩) v; unfold zx; by_cases h3 : v = e
    · rw [if_pos h3, h3, vx_out hnb, Int.sub_zero]; exact hdK
    · rw [if_neg h3]; omega
end
section
variable {n : Nat} {rs : List Rw} {c : List Int} {bs : List Nat} {W : Nat} {T : Tv}
structure Half1 (n : Nat) (rs : List Rw) (c : List Int) (bs : List Nat) : Prop where
  piv : Piv (n + rs.length + 2) (tst n rs c (rs.length + 1) (bs0 n rs.length)).rows (tst n rs c (rs.length + 1) ((bs0 n rs.length).set (wrR rs rs.length).toNat (n + rs.length))).rows (tst n rs c (rs.length + 1) (bs0 n rs.length)).goal (tst n rs c (rs.length + 1) ((bs0 n rs.length).set (wrR rs rs.length).toNat (n + rs.length))).goal (wrR rs rs.length).toNat (n + rs.length)
  run : ∃ k s, ImpRun (n + rs.length + 2) (n + rs.length + 1) (n + rs.length + 1) (tst n rs c (rs.length + 1) bs) s k (tst n rs c (rs.length + 1) ((bs0 n rs.length).set (wrR rs rs.length).toNat (n + rs.length)))
  ph : ∃ T, Ph n rs c (n + rs.length + 1) T bs
def oc3 (n : Nat) (rs : List Rw) (c : List Int) (bs : List Nat) : Oc := ⟨3, frz0, [], [], ((List.range rs.length).map fun i => (tst n rs c (rs.length + 1) bs).goal.getD (n + i) 0).map ofQ⟩
inductive RefRun (n : Nat) (rs : List Rw) (c : List Int) : Oc → Prop
  | keep (bf : List Nat) (s : Int) (hw : wrR rs rs.length < 0) (h : Half2 n rs c (bs0 n rs.length) bf s) : RefRun n rs c (oc2 n rs c bf s)
  | none (bs : List Nat) (hw : 0 ≤ wrR rs rs.length) (h : Half1 n rs c bs) (hv : (rq (colA n rs c) bs (rs.length + 1) (rhsQ rs)).num < 0) : RefRun n rs c (oc3 n rs c bs)
  | some (bs bf : List Nat) (s : Int) (hw : 0 ≤ wrR rs rs.length) (h : Half1 n rs c bs) (hv : ¬ (rq (colA n rs c) bs (rs.length + 1) (rhsQ rs)).num < 0)
      (T : Tv) (hd : Dr n rs c 0 T bs) (h2 : Half2 n rs c (dv n rs c bs rs.length) bf s) : RefRun n rs c (oc2 n rs c bf s)
theorem ref_run (hL : LpOk n rs c) (hm : rs.length ≤ 6) : ∃ O, RefRun n rs c O ∧ Sol n rs c O := by
  obtain ⟨T, _, _, _, hR, _⟩ := lp_sol hL; have hB := hR.beg; clear hR; have hwe := hB.wr_eq rs.length (Nat.le_refl _); have hl := hB.len
  have hcl : T.col.length = n := by rw [hB.col, XX]
  by_cases hw : wrR rs rs.length < 0
  · obtain ⟨bf, s, h⟩ := (hB.ph hL (by omega)).half hL hm (by omega); exact ⟨_, .keep bf s hw h, h.sol hL⟩
  · have hw0 : 0 ≤ wrR rs rs.length := by omega
    have hwb := wrR_bd rs rs.length; have hP := (hB.ph1 hL (by omega)).1
    have hrl : (pvt (insT T ((n + rs.length : Nat) : Int)) (wrS T rs.length).toNat T.col.length).rows.length = rs.length + 2 := by
      rw [Zq]; show (insP _ _ _ _).length = _; rw [insP_len]; simp [hl]
    have hil : (pvt (insT T ((n + rs.length : Nat) : Int)) (wrS T rs.length).toNat T.col.length).col.length = n + 1 := by
      rw [Ze]; show (T.col ++ [_]).length = _; simp [hcl]
    rw [← hwe] at hP hrl hil; obtain ⟨k, E, bs, s, hI, hPE, hEn, hr, hc⟩ := hP.imp hL hm (by omega) (Nat.le_refl _) (g := rs.length + 1) (by omega) (by omega) (by omega)
    have hne0 : rq (colA n rs c) (bs0 n rs.length) (wrR rs rs.length).toNat (colA n rs c (n + rs.length)) ≠ 0 := by
      rw [rq_bs0 (by omega) (Ym _), colA_art]; simp only; rw [if_pos (by omega)]; decide
    have h1 : Half1 n rs c bs := ⟨tst_piv hL hm bs0_bas.1 (by omega) (by omega) (by omega) (by omega) hne0, ⟨k, s, hI⟩, ⟨E, hPE⟩⟩
    have hcov : ∀ v, v < n + rs.length + 1 → 0 ≤ tt (colA n rs c) bs (rs.length + 1) (colA n rs c v) := by
      rcases hEn with ⟨_, h1⟩ | ⟨e, _, he, _, h2, h3⟩
      · exact h1
      · exfalso; have hq := hPE.w_eq (Nat.le_refl _) (Ym (n := n) (rs := rs) (c := c) e); have hd := den_pos hPE.bas.ne
        have hx : 0 ≤ colA n rs c e (rs.length + 1) := by
          by_cases h4 : e = n + rs.length
          · rw [h4, colA_art_w]; decide
          · rw [colA_w0 (by omega)]; decide
        have h5 := Int.mul_nonneg (Int.le_of_lt hd) hx
        have h6 : sm (fun k => if bs.getD k 0 = n + rs.length then tt (colA n rs c) bs k (colA n rs c e) else 0) rs.length ≤ sm (fun _ => 0) rs.length := sm_le fun k hk => by
          split
          · exact h3 k hk
          · exact Int.le_refl _
        rw [Z4 (f := fun _ => 0) fun _ _ => rfl] at h6; omega
    have hE1 : End1 n rs c T E bs := ⟨hPE, hcov, by rw [hr, hrl], by rw [hc, hil]⟩; have hsg := rq_sign hPE.bas.ne (rs.length + 1) (rhsQ rs); by_cases hv : (rq (colA n rs c) bs (rs.length + 1) (rhsQ rs)).num < 0
    · refine ⟨_, .none bs hw0 h1 hv, ?_⟩
      have hdl : ((List.range rs.length).map fun i => (tst n rs c (rs.length + 1) bs).goal.getD (n + i) 0).map ofQ = ptl rs.length (yx n rs c bs (rs.length + 1)) (Go.Det.den (colA n rs c) bs) := by
        rw [List.map_map]
        refine List.map_congr_left fun i hi => ?_
        have hi := List.mem_range.1 hi; show ofQ ((tst n rs c (rs.length + 1) bs).goal.getD (n + i) 0) = ofQ _; rw [goal_at (by omega), rq_shq hPE.bas.ne]; rfl
      unfold oc3; rw [hdl]; exact .emp _ _ (hE1.refu (hsg.1.1 hv)) (den_Kt hL hPE) (fun i _ => tt_Kt hL hPE.bas.len (by omega) (.inr ⟨_, rfl⟩))
    · have hz : ∀ k, k < rs.length → (if bs.getD k 0 = n + rs.length then tt (colA n rs c) bs k (rhsQ rs) else 0) = 0 := by
        have hq := hPE.w_eq (Nat.le_refl _) (JZ (rs := rs)); rw [show rhsQ rs (rs.length + 1) = 0 from if_neg (by omega), Int.mul_zero] at hq
        have h3 : ¬ tt (colA n rs c) bs (rs.length + 1) (rhsQ rs) < 0 := fun e => hv (hsg.1.2 e)
        refine sm_zero_of (fun k hk => ?_) (by omega); split
        · exact hPE.good.feas k hk
        · exact Int.le_refl _
      have hD : Dr n rs c 0 E bs := ⟨hPE, by rw [hr, hrl], by rw [hc, hil], fun r hr hb => ⟨by omega, by have := hz r hr; rwa [if_pos hb] at this⟩⟩; obtain ⟨T', hD'⟩ := hD.all hL rs.length (Nat.le_refl _); obtain ⟨T2, hP2, hr2⟩ := hD'.cut (Nat.le_refl _); obtain ⟨bf, s2, h2⟩ := hP2.half hL hm (by omega); exact ⟨_, .some bs bf s2 hw0 h1 hv E hD h2, h2.sol hL⟩
end
attribute [local irreducible] Go.Own.Fin Ok OkF OkM Ops St
abbrev outZ : List CT := [.ex (.int .i64 0), .ex (.bool false), .ex (.slice none 0 0), .ex (.slice none 0 0), .ex (.slice none 0 0), .ex (.slice none 0 0), .ex (.slice none 0 0)]
theorem Jy (l : List Rat) : ratsC l = fracsC (l.map ofQ) := by simp [ratsC, fracsC, List.map_map]; rfl
set_option maxHeartbeats 32000000 in
theorem sol34_end (n : Nat) (rs : List Rw) (c : List Int) (bs bf : List Nat) (s : Int) (hL : LpOk n rs c) (hm6 : rs.length ≤ 6) (H : Half2 n rs c bs bf s) (ar ab : Option Addr) (lr cr lb cb : Nat) (S : BSet) (w : World) :
    St { P := Tryz.prog, n := 261, S0 := S, w0 := w, bor := noBor } [(0, .ct (intC n)), (6, .own 0), (8, .own 1), (9, .ct (intC ((n : Int) + rs.length + 1)))]
      ((1, .box 102 (taCs n rs.length (.slice ar lr cr) (tst n rs c rs.length bs).goal (.slice ab lb cb))) :: (0, .box 46 outZ) :: tEnt (.slice ar lr cr) (tst n rs c rs.length bs).rows (.slice ab lb cb) (tst n rs c rs.length bs).bas)
      (seqR (seqR (seqR (seqR (seqR (seqR (seqR (seqR (seqR (seqR (bodyOf Tryz.f28)))))))))))
      (bodyPost Tryz.prog Tryz.f28 (okPost { P := Tryz.prog, n := 261, S0 := S, w0 := w, bor := noBor } (.fr (tupT [ocC (oc2 n rs c bf s), intC 0])))) := by
  obtain ⟨k, hR⟩ := H.run; obtain ⟨Tf, hF⟩ := H.phf; have hn := hL.nn; have hTf : Tok (n + rs.length + 2) (tst n rs c rs.length bf) := tst_tok hL hm6 hF.bas.len hF.bas.ne (by omega); have hI := improve34_ok n rs.length (n + rs.length + 2) (n + rs.length) _ _ s k hR J (by omega) ar ab lr cr lb cb
  have hfb : ∀ i, 0 ≤ (tst n rs c rs.length bf).bas.getD i 0 := fun i => by
    by_cases hi : i < rs.length
    · rw [tst_bas hi]; omega
    · rw [getD_ge (by rw [hTf.b, Zt]; omega)]; exact Int.le_refl _
  have hPt := point34_ok n rs.length (n + rs.length + 2) (tst n rs c rs.length bf) hTf J hfb ar ab lr cr lb cb; have hDu := duals34_ok n rs.length (n + rs.length + 2) (tst n rs c rs.length bf) hTf (by omega) ar ab lr cr lb cb; have hfl := Zt (n := n) (rs := rs) (c := c) (bs := bf) rs.length; rw [hfl] at hPt
  have e1 : ((n : Int) + rs.length + 1 - 1) = ((n + rs.length : Nat) : Int) := by omega
  have hEn := H.endr
  have hoc : oc2 n rs c bf s = if 0 ≤ s then ⟨2, frz0, (ptR (tst n rs c rs.length bf) n (n + rs.length + 1) rs.length).map ofQ, (raR (tst n rs c rs.length bf) n s.toNat rs.length).map ofQ, []⟩
    else ⟨1, ofQ ((tst n rs c rs.length bf).goal.getD (n + rs.length + 1) 0), (ptR (tst n rs c rs.length bf) n (n + rs.length + 1) rs.length).map ofQ, [], ((List.range rs.length).map fun i => (tst n rs c rs.length bf).goal.getD (n + i) 0).map ofQ⟩ := rfl
  generalize oc2 n rs c bf s = O at hoc ⊢; generalize tst n rs c rs.length bf = X at *; generalize tst n rs c rs.length bs = Y at *; clear hR H
  refine Qy ?_
  refine Zw (α := Unit) (fun _ => True) (fun _ => [(0, .ct (intC n)), (6, .own 0), (8, .own 1), (9, .ct (intC ((n : Int) + rs.length + 1))), (16, .ct (intC s))])
    (fun _ => (1, .box 102 (taCs n rs.length (.slice ar lr cr) X.goal (.slice ab lb cb))) :: (0, .box 46 outZ) :: tEnt (.slice ar lr cr) X.rows (.slice ab lb cb) X.bas) (fun _ _ => ?_) (fun KK hN => ?_)
  rotate_left
  · refine Qx (fun K hK => ?_); refine Qt (n := 5) J J J J J lTab J (Qq J J J (Qw (isub (by omega) (by omega)) J J J J ?_)); rw [e1]; skip; refine YZ [(1, .box 102 (taCs n rs.length (.slice ar lr cr) Y.goal (.slice ab lb cb))), (0, .box 46 outZ)] goimprove34 hI J J J (fun _ h => h.elim) J J J (fun _ _ => ?_); refine Qq J J J (QY J J J J (QY J J J J (Qa 5 J J J J J szTab5 J J (Qv J J J (Qj (hK _ _ ?_)))))); clear hK K; exact XV hN () trivial (by exact Qu J ⟨rfl, rfl, rfl, rfl, rfl, trivial⟩)
  clear hI e1; refine Qy (Qy (Qx fun K hK => ?_)); refine Qq J J J (Qw igeq J J J J (Qj (hK _ _ (Qz ?_)))); clear hK K; refine QK J (fun hs => ?_) (fun hs => ?_)
  · rw [if_pos hs] at hoc; rcases hEn with ⟨h1, _⟩ | ⟨e, rfl, he, _⟩
    · omega
    have e2 : (e : Int).toNat = e := Int.toNat_natCast e; rw [e2] at hoc; have hW1 : Ok Tryz.prog 61 [intC 1] (ratC 1) := Zn 1 (by decide) (by decide); have hW0 : Ok Tryz.prog 61 [intC 0] (ratC 0) := Zn 0 (by decide) (by decide); refine Qy (Qx fun K hK => ?_); refine Qq J J J (Ops.callFr 2 gozeros34 (zeros34_F n (by omega)) J J J J J J ?_); refine Qv J J J (Qj (hK _ _ (Qz (Qy (Qy ?_))))); clear hK K; refine Qx (fun K hK => ?_); refine Qq J J J (Qq J J J (Qw ilss J J J J (Qj (hK _ _ (Qz ?_))))); clear hK K
    refine Zw (α := Unit) (fun _ => True) (fun _ => [(0, .ct (intC n)), (6, .own 0), (8, .own 1), (16, .ct (intC e)), (17, .own 2)])
      (fun _ => (2, .row 38 3 (frR ((raR X n e 0).map some))) :: (1, .box 102 (taCs n rs.length (.slice ar lr cr) X.goal (.slice ab lb cb))) :: (0, .box 46 outZ) :: tEnt (.slice ar lr cr) X.rows (.slice ab lb cb) X.bas) (fun _ _ => ?_) (fun KK hN => ?_)
    rotate_left
    · refine QK J (fun hlt => ?_) (fun hlt => ?_)
      · refine Qx (fun K hK => ?_); refine Qq J J J (Qq J J J (QQ Zs hW1 J J J J (Xu n J J J (by rw [Zz, List.length_replicate]) J sFracs (by omega) (by omega) J ?_))); rw [e2]
        refine stFr J J J J (by rw [List.length_replicate]; omega) szFrac ?_
        rw [show (List.replicate n (some (0 : Rat))).set e (some 1) = (raR X n e 0).map some by simp [raR, List.map_set]]; refine Qj (hK _ _ ?_); clear hK K; exact XV hN () trivial (by exact Qu J ⟨rfl, rfl, rfl, rfl, rfl, trivial⟩)
      · rw [show List.replicate n (some (0 : Rat)) = (raR X n e 0).map some by show _ = ((List.replicate n (0 : Rat)).set e 1).map some; rw [List.set_eq_of_length_le (by rw [List.length_replicate]; omega)]; simp]
        refine QU ?_
        exact XV hN () trivial (by exact Qu J ⟨rfl, rfl, rfl, rfl, rfl, trivial⟩)
    refine Qy (Qy (Qx fun K hK => ?_)); refine Qv J J J (Qj (hK _ _ (Qz (Q0 ?_)))); clear hK K
    refine Xq (α := Nat) (fun i => i ≤ rs.length)
      (fun i => [(0, .ct (intC n)), (6, .own 0), (8, .own 1), (16, .ct (intC e)), (17, .own 2), (18, .ct (intC i))])
      (fun i => (2, .row 38 3 (frR ((raR X n e i).map some))) :: (1, .box 102 (taCs n rs.length (.slice ar lr cr) X.goal (.slice ab lb cb))) :: (0, .box 46 outZ) :: tEnt (.slice ar lr cr) X.rows (.slice ab lb cb) X.bas) (fun i => rs.length - i) 0 (Nat.zero_le _) (by exact Qu J ⟨rfl, rfl, rfl, rfl, rfl, rfl, trivial⟩) ?_
    intro i hi
    (try dsimp only at hi ⊢)
    refine Qy (Qy (Qx fun K hK => ?_)); refine Qq J J J (QV J J J fG1 J (QJ J J J J J lInt J (Qw ilss J J J J (Qj (hK _ _ (Qz ?_)))))); clear hK K; refine QK J (fun hil => ?_) (fun hil => ?_)
    · have k2 : (i : Int).toNat * 1 = i := by omega
      have hlt : i < X.rows.length := by omega
      have hwi := hTf.w i hlt; have hat : X.at i e = (X.rows.getD i []).getD e 0 := rfl; have q := hTf.q i hlt _ (X1 (z := (0 : Rat)) (show e < (X.rows.getD i []).length by omega)); rw [← hat] at q; have qn := q.n; have qd := q.d
      have l0 : (limbs (ofQ 0).num).length ≤ 20 := by decide +kernel
      have l1 : (limbs (ofQ 0).den).length ≤ 20 := by decide +kernel
      have en1 : (ofQ (0 - X.at i e)).num = (ofQ (X.at i e)).num := by
        rw [show (0 : Rat) - X.at i e = -(X.at i e) by grind]; show (-(X.at i e)).num.natAbs = _; rw [Rat.neg_num, Int.natAbs_neg]; rfl
      have ed1 : (ofQ (0 - X.at i e)).den = (ofQ (X.at i e)).den := by
        rw [show (0 : Rat) - X.at i e = -(X.at i e) by grind]; show (-(X.at i e)).den = _; rw [Rat.neg_den]; rfl
      have hSb := rFSub_q 0 (X.at i e) l0 l1 (by omega) (by omega); have hRd := rFReduce_q (0 - X.at i e) (by rw [en1]; omega) (by rw [ed1]; omega); have hbi := hfb i; have hrl := raR_len X n e i; have hTb := hTf.b
      have hrs : raR X n e (i + 1) = if X.bas.getD i 0 < n then (raR X n e i).set (X.bas.getD i 0).toNat (0 - X.at i e) else raR X n e i := rfl
      refine QU (Qz (Qy (Q0 (Qy (Qx fun K hK => ?_))))); refine QV J J J fG4 J (QJ J J J J J lInts J (Qq J J J (Qo 9 X.bas.length J J J (by simp [ints]) J sInts (by omega) (by omega) J ?_))); rw [k2]
      refine QJ J J J J (Xi (by omega)) lInt J ?_
      refine Qq J J J (Qw ilss J J J J (Qj (hK _ _ (Qz ?_)))); clear hK K; refine QK J (fun h2 => ?_) (fun h2 => ?_)
      · rw [if_pos h2] at hrs; obtain ⟨v, hv⟩ : ∃ v : Nat, X.bas.getD i 0 = v := ⟨(X.bas.getD i 0).toNat, by omega⟩; have e5 : (v : Int).toNat = v := Int.toNat_natCast v; rw [hv, e5] at hrs; rw [hv] at h2; refine Qy (Zw (α := Unit) (fun _ => True) (fun _ => [(0, .ct (intC n)), (6, .own 0), (8, .own 1), (16, .ct (intC e)), (17, .own 2), (18, .ct (intC i)), (19, .own 3)]) (fun _ => ((3, .box 38 (frCs (ofQ (0 - X.at i e)))) :: (2, .row 38 3 (frR ((raR X n e i).map some))) :: (1, .box 102 (taCs n rs.length (.slice ar lr cr) X.goal (.slice ab lb cb))) :: (0, .box 46 outZ) :: tEnt (.slice ar lr cr) X.rows (.slice ab lb cb) X.bas)) (fun _ _ => ?_) (fun KK hN => ?_)); rotate_left
        · skip; refine Xv mixed 14 (.p 1 (.p 3 (.p 6 (.f 2 (.p 4 (.f 5 (.p 7 (.f 8 (.fork 0 (.fork 9 (.p 10 (.p 11 (.p 12 (.m 13 (.a 14 (.p 15 .done)))))) 13 (.m 9 (.p 10 (.p 11 (.p 12 (.a 14 (.p 15 .done))))))) 13 (.m 0 (.m 9 (.p 10 (.p 11 (.p 12 (.a 14 (.p 15 .done)))))))))))))))) (by kernel_rfl) (fun K hK => ?_); refine (fun (cont : Go.Own.Fin _ [(0, .ct (intC n)), (6, .own 0), (8, .own 1), (16, .ct (intC e)), (17, .own 2), (18, .ct (intC i)), (19, .own 3)] ((3, .box 38 (frCs (ofQ (0 - X.at i e)))) :: (2, .row 38 3 (frR ((raR X n e i).map some))) :: (1, .box 102 (taCs n rs.length (.slice ar lr cr) X.goal (.slice ab lb cb))) :: (0, .box 46 outZ) :: tEnt (.slice ar lr cr) X.rows (.slice ab lb cb) X.bas) K) => ?_) (hK _ _ ?_); rotate_left
          · clear hK K; exact XV hN () trivial (by exact Qu J ⟨rfl, rfl, rfl, rfl, rfl, rfl, rfl, trivial⟩)
          clear hK; refine QV J J J fG2 J (Qq J J J (Qq J J J (QJ J J J J J lRat2 J (Qo 8 X.rows.length J J J (rowsR_len _) J sRat2 (by omega) (by omega) J ?_)))); rw [k2]; refine QJ J J J J (rowsR_at hlt) lRat1 J (Qh J J J sFracs (by omega) (Z1 (by omega) (by omega)) J ?_)
          refine Xd (n := 3) J J J Xy J J ?_
          rw [e2]; skip; rw [← hat]
          refine Ops.fork ?_ ?_
          · refine QQ Zs hW0 J J J J (Ops.fork ?_ ?_)
            · refine QQ gorFSub hSb J J J J (Qq J J J (QY J J J J (QY J J J J (Qf 3 J J zvFrac J J J (Qa 3 J J J J J szFrac J J (Qv J J J ?_)))))); exact Qj (Zv cont ⟨rfl, rfl, rfl, rfl, rfl, rfl, rfl, trivial⟩)
            · refine Qf 3 J J zvFrac J J J (QQ gorFSub hSb J J J J (Qq J J J (QY J J J J (QY J J J J (Qa 3 J J J J J szFrac J J (Qv J J J ?_)))))); exact Qj (Zv cont ⟨rfl, rfl, rfl, rfl, rfl, rfl, rfl, trivial⟩)
          · refine Qf 3 J J zvFrac J J J (QQ Zs hW0 J J J J (QQ gorFSub hSb J J J J (Qq J J J (QY J J J J (QY J J J J (Qa 3 J J J J J szFrac J J (Qv J J J ?_))))))); exact Qj (Zv cont ⟨rfl, rfl, rfl, rfl, rfl, rfl, rfl, trivial⟩)
        skip; refine Xv mixed 9 (.p 0 (.p 1 (.p 3 (.f 2 (.p 4 (.f 5 (.f 6 (.m 7 (.p 8 (.a 9 .done)))))))))) (by kernel_rfl) (fun K hK => ?_); refine Qq J J J (QV J J J fG4 J (Qq J J J (QJ J J J J J lInts J (Qo 9 X.bas.length J J J (by simp [ints]) J sInts (by omega) (by omega) J ?_)))); rw [k2]
        refine QJ J J J J (Xi (by omega)) lInt J ?_
        rw [hv]; refine Qt (n := 3) J J J J J Xy J (QQ gorFReduce hRd J J J J (Xu n J J J (by rw [Zz, List.length_map, hrl]) J sFracs (by omega) (by omega) J ?_)); rw [e5]
        refine stFr J J J J (by rw [List.length_map]; omega) szFrac ?_
        rw [show ((raR X n e i).map some).set v (some (0 - X.at i e)) = (raR X n e (i + 1)).map some by rw [hrs, List.map_set]]; refine Qj (hK _ _ (Qz ?_)); clear hK K; refine Qx (fun K hK => ?_); refine Qq J J J (Qw (iadd (by omega) (by omega)) J J J J ?_); refine Qv J J J (Qj (hK _ _ (Q4 ?_))); clear hK K; refine Xb 3 (Qb (i + 1) (by omega) (by omega) (by exact Qu J ⟨rfl, rfl, rfl, rfl, rfl, by simp only [Int.natCast_add]; rfl, trivial⟩))
      · rw [if_neg h2] at hrs; rw [← hrs]; refine QU (Qz (Qx fun K hK => ?_)); refine Qq J J J (Qw (iadd (by omega) (by omega)) J J J J ?_); refine Qv J J J (Qj (hK _ _ (Q4 ?_))); clear hK K; refine Qb (i + 1) (by omega) (by omega) (by exact Qu J ⟨rfl, rfl, rfl, rfl, rfl, by simp only [Int.natCast_add]; rfl, trivial⟩)
    · have hi' : i = rs.length := by omega
      subst hi'; refine Xl 2 _ J (frR_rats _ _) Xe (Qr (Qz (Qy (Qx fun K hK => ?_)))); refine Qt (n := 5) J J J J J lTab J (YZ [(1, .box 102 (taCs n rs.length (.slice ar lr cr) X.goal (.slice ab lb cb))), (0, .box 46 outZ)] gopoint34 hPt J J J (fun _ h => h.elim) J J J (fun _ _ => ?_))
      refine Qq J J J ?_
      rw [Jy]; refine Xk J bOut J (.one J J J J (.one J J J J (.one J J J J .nil))) J (Qa 7 J J J J J szOut J J (Qv J J J (Qj (hK _ _ (Qz (Q2 (QW ?_))))))); clear hK K
      have hw : argW ([.ex (.int .i64 2)] ++ [.ex (.bool false), .ex (.slice none 0 0), .ex (.slice none 0 0)] ++ [fracsC ((ptR X n (n + rs.length + 1) rs.length).map ofQ), ratsC (raR X n e rs.length), .ex (.slice none 0 0)]) (ocCs O) := by
        rw [Jy (raR X n e rs.length), hoc]; exact ⟨Xp, Xp, Jv, Jv, Xp, Xp, Yd, trivial⟩
      refine Q1 [_, _] rfl (Xr (w_agg hw) (Qd J J lOut J (QZ J QX))) J J
  · rw [if_neg hs] at hoc; have qv := hTf.qg _ (X1 (z := (0 : Rat)) (show n + rs.length + 1 < X.goal.length by rw [hTf.g]; omega)); have qn := qv.n; have qd := qv.d; have hRd := rFReduce_q (X.goal.getD (n + rs.length + 1) 0) (by omega) (by omega); have hg := hTf.g
    have e4 : ((n : Int) + rs.length + 1).toNat = n + rs.length + 1 := by omega
    refine QU (Qz (Qy ?_)); refine St.drawQ mixed [7, 11] (.p 0 (.p 2 (.f 1 (.p 3 (.f 4 (.f 6 (.m 5 (.a 7 (.f 8 (.m 9 (.p 10 (.a 11 (.p 12 .done) .non)) .non)) (.m 8 (.a 7 (.m 9 (.p 10 (.a 11 (.p 12 .done) .non)) .non) .non) .non)) (.m 8 (.m 5 (.a 7 (.m 9 (.p 10 (.a 11 (.p 12 .done) .non)) .non) .non) .non) .non)))))))) (by kernel_rfl) (fun K hK => ?_); refine (fun (cont : Go.Own.Fin _ [(6, .own 0), (7, .ct (intC 0))] ((1, .box 102 (taCs n rs.length (.slice ar lr cr) X.goal (.slice ab lb cb))) :: (0, .box 46 ([.ex (.int .i64 1)] ++ frCs (ofQ (X.goal.getD (n + rs.length + 1) 0)) ++ [fracsC ((ptR X n (n + rs.length + 1) rs.length).map ofQ), .ex (.slice none 0 0), fracsC (((List.range rs.length).map fun i => X.goal.getD (n + i) 0).map ofQ)])) :: tEnt (.slice ar lr cr) X.rows (.slice ab lb cb) X.bas) K) => ?_) (hK _ _ ?_); rotate_left
    · clear hK K; skip; refine Qz (Q2 ?_)
      have hw : argW ([.ex (.int .i64 1)] ++ frCs (ofQ (X.goal.getD (n + rs.length + 1) 0)) ++ [fracsC ((ptR X n (n + rs.length + 1) rs.length).map ofQ), .ex (.slice none 0 0), fracsC (((List.range rs.length).map fun i => X.goal.getD (n + i) 0).map ofQ)]) (ocCs O) := by
        rw [hoc]; exact ⟨Xp, Xp, Xp, Xp, Xp, Yd, Xp, trivial⟩
      refine Q1 [_, _] rfl (Xr (w_agg hw) (Qd J J lOut J (QZ J QX))) J J
    clear hK; refine Qm (QV J J J fG3 J (Qj (Qm (Qq J J J (Qj (Fin.qf (QJ J J J J J lRat1 J (Qj (Qm (Qh J J J sFracs (by omega) (Z1 (by omega) (by omega)) J ?_)))))))))); refine Qj (Fin.qf (Xd (n := 3) J J J Xy J J ?_)); rw [e4]; skip; refine Qj (Fin.qf (Qt (n := 5) J J J J J lTab J (Qj (X5 ?_ ?_))))
    · refine QQ gorFReduce hRd J J J J (Qj (Xx ?_ ?_))
      · refine YZ [(1, .box 102 (taCs n rs.length (.slice ar lr cr) X.goal (.slice ab lb cb))), (0, .box 46 outZ)] gopoint34 hPt J J J (fun _ h => h.elim) J J J (fun _ _ => ?_); refine Qj (Fin.qf (Qt (n := 5) J J J J J lTab J (Qj (X5 ?_ Q8)))); refine QQ goduals34 hDu J J J J (Qj ?_); rw [Jy, Jy]; refine Qm (Xk J bOut J (.one J J J J (.agg J J J J (.one J J J J (.one J J J J .nil)))) J (Qj ?_))
        refine Xx ?_ Q8
        refine Qa 7 J J J J J szOut J J (Qj (Qm (Qv J J J (Qj ?_)))); exact X4 (Zv cont ⟨rfl, rfl, trivial⟩)
      refine X5 ?_ Q8
      refine Qt (n := 5) J J J J J lTab J (Qj (Xx ?_ Q8)); refine YZ [(1, .box 102 (taCs n rs.length (.slice ar lr cr) X.goal (.slice ab lb cb))), (0, .box 46 outZ)] gopoint34 hPt J J J (fun _ h => h.elim) J J J (fun _ _ => ?_); refine Qj (X5 ?_ Q8); refine QQ goduals34 hDu J J J J (Qj ?_); rw [Jy, Jy]; refine Qm (Xk J bOut J (.one J J J J (.agg J J J J (.one J J J J (.one J J J J .nil)))) J (Qj ?_))
      refine Xx ?_ Q8
      refine Qa 7 J J J J J szOut J J (Qj (Qm (Qv J J J (Qj ?_)))); exact X4 (Zv cont ⟨rfl, rfl, trivial⟩)
    refine X5 ?_ Q8
    refine Qt (n := 5) J J J J J lTab J (Qj (X5 ?_ Q8)); refine QQ gorFReduce hRd J J J J (Qj (Xx ?_ Q8)); refine YZ [(1, .box 102 (taCs n rs.length (.slice ar lr cr) X.goal (.slice ab lb cb))), (0, .box 46 outZ)] gopoint34 hPt J J J (fun _ h => h.elim) J J J (fun _ _ => ?_); refine Qj (X5 ?_ Q8); refine QQ goduals34 hDu J J J J (Qj ?_); rw [Jy, Jy]; refine Qm (Xk J bOut J (.one J J J J (.agg J J J J (.one J J J J (.one J J J J .nil)))) J (Qj ?_))
    refine Xx ?_ Q8
    refine Qa 7 J J J J J szOut J J (Qj (Qm (Qv J J J (Qj ?_)))); exact X4 (Zv cont ⟨rfl, rfl, trivial⟩)
end Go.Proofs.YtdhmbgogmoaofaaGreat
namespace Go.Proofs.YtdhmbgogmoaofaaGreat
open Go.Own Go.Limbs Go.Det
section
variable {X : Ctx} {L : AL} {B : BL} {ops : Array Oper} {K : Act → World → Prop} {r : Pl}
  {x y : Operand} {t t' : TypeId} {pos : String} {af : Array Edge} {g : Option (Nat × Bool)}
theorem stFrX {i j el : Nat} {v : Value} {l : List (Option Rat)} {q : Rat} (hg : gd ops L g = some true) (hx : ev L x = some (.loc i (j * 3))) (hi : bget B i = some (.rowx v el 3 (frR l))) (hy : ev L y = some (.ct (ratC q))) (hj : j < l.length) (hsz : (X.P.info? t).map (·.size) = some 3)
    (h : Ops X ops r L (bset B i (.rowx v el 3 (frR (l.set j (some q))))) K) : Ops X ops (.cons ⟨none, .store t x y, t', pos, af, g⟩ .any r) L B K :=
  Ops.stNA hg hx hi hy rfl hsz (by show j * 3 + 3 ≤ (frR l).length; rw [Zz]; omega) (by
    have : (Ent.rowx v el 3 (frR l)).putc (j * 3) (frCs (ofQ q)) = .rowx v el 3 (frR (l.set j (some q))) := by rw [← frR_put q hj]; rfl
    rw [this]; exact h)
end
attribute [local irreducible] St Ops Go.Own.Fin Ok OkM OkF
set_option maxHeartbeats 32000000 in
theorem sol34_goal (n : Nat) (rs : List Rw) (c : List Int) (bs bf : List Nat) (s : Int) (gC : CT) (hg1 : gC.one = true) (hL : LpOk n rs c) (hm6 : rs.length ≤ 6) (H : Half2 n rs c bs bf s) (ar ab : Option Addr) (lr cr lb cb : Nat) (S : BSet) (w : World) :
    St { P := Tryz.prog, n := 261, S0 := S, w0 := w, bor := noBor } [(0, .ct (intC n)), (2, .ct (intsC c)), (6, .own 0), (8, .own 1), (9, .ct (intC ((n : Int) + rs.length + 1)))]
      ((1, .box 102 [intC n, intC rs.length, .ex (.slice ar lr cr), gC, .ex (.slice ab lb cb)]) :: (0, .box 46 outZ) :: tEnt (.slice ar lr cr) (tst n rs c rs.length bs).rows (.slice ab lb cb) (tst n rs c rs.length bs).bas)
      (seqR (seqR (seqR (seqR (seqR (seqR (seqR (bodyOf Tryz.f28))))))))
      (bodyPost Tryz.prog Tryz.f28 (okPost { P := Tryz.prog, n := 261, S0 := S, w0 := w, bor := noBor } (.fr (tupT [ocC (oc2 n rs c bf s), intC 0])))) := by
  have hn := hL.nn
  have e1 : ((n : Int) + rs.length + 1 + 1) = ((n + rs.length + 2 : Nat) : Int) := by omega
  obtain ⟨Tp, hP⟩ := H.ph
  refine Qy ?_
  refine Zw (α := Nat × Nat) (fun x => n + rs.length + 2 ≤ x.2 ∧ x.2 ≤ maxLen) (fun _ => [(0, .ct (intC n)), (2, .ct (intsC c)), (6, .own 0), (8, .own 1), (9, .ct (intC ((n : Int) + rs.length + 1)))])
    (fun x => (2, .rowx (.slice (some ⟨x.1, 0, none⟩) (n + rs.length + 2) x.2) 38 3 (frR ((cfR (c.map fun x => -x) (n + rs.length + 2) 0).map some))) :: (1, .box 102 [intC n, intC rs.length, .ex (.slice ar lr cr), .ex (.slice (some ⟨x.1, 0, none⟩) (n + rs.length + 2) x.2), .ex (.slice ab lb cb)]) :: (0, .box 46 outZ) :: tEnt (.slice ar lr cr) (tst n rs c rs.length bs).rows (.slice ab lb cb) (tst n rs c rs.length bs).bas) (fun x hx => ?_) (fun KK hN => ?_)
  rotate_left
  · refine Qx (fun K hK => ?_); refine Qq J J J (Qw (iadd (by omega) (by omega)) J J J J ?_); rw [e1]; skip
    refine Ops.callFr 2 gozeros34 (zeros34_F (n + rs.length + 2) (by omega)) J J J J J J ?_
    rw [show List.replicate (n + rs.length + 2) (some (0 : Rat)) = (cfR (c.map fun x => -x) (n + rs.length + 2) 0).map some by rw [cfR_zero, List.map_replicate]]; refine Xw 140 2 (n + rs.length + 2) J J (by rw [Zz, List.length_map, cfR_len]) (by omega) (by decide) (fun gb cp c1 c2 => ?_); refine QV J J J fG3 J (Qn J J J J J zFracs (Nat.le_of_ble_eq_true J) (Qj (hK _ _ ?_))); clear hK K; exact XV hN (gb, cp) ⟨c1, c2⟩ (by exact Qu J ⟨rfl, rfl, rfl, rfl, rfl, trivial⟩)
  obtain ⟨gb, cp⟩ := x; dsimp only at hx ⊢
  refine Qy ?_
  refine Zw (α := Unit) (fun _ => True) (fun _ => [(0, .ct (intC n)), (6, .own 0), (8, .own 1), (9, .ct (intC ((n : Int) + rs.length + 1)))])
    (fun _ => (1, .box 102 (taCs n rs.length (.slice ar lr cr) (goalK n rs c bs 0) (.slice ab lb cb))) :: (0, .box 46 outZ) :: tEnt (.slice ar lr cr) (tst n rs c rs.length bs).rows (.slice ab lb cb) (tst n rs c rs.length bs).bas) (fun _ _ => ?_) (fun KK hN => ?_)
  rotate_left
  · refine Qy (Qx fun K hK => ?_); refine Qv J J J (Qj (hK _ _ (Qz (Q0 ?_)))); clear hK K
    refine Xq (α := Nat) (fun i => i ≤ c.length)
      (fun i => [(0, .ct (intC n)), (2, .ct (intsC c)), (6, .own 0), (8, .own 1), (9, .ct (intC ((n : Int) + rs.length + 1))), (14, .ct (intC i))])
      (fun i => (2, .rowx (.slice (some ⟨gb, 0, none⟩) (n + rs.length + 2) cp) 38 3 (frR ((cfR (c.map fun x => -x) (n + rs.length + 2) i).map some))) :: (1, .box 102 [intC n, intC rs.length, .ex (.slice ar lr cr), .ex (.slice (some ⟨gb, 0, none⟩) (n + rs.length + 2) cp), .ex (.slice ab lb cb)]) :: (0, .box 46 outZ) :: tEnt (.slice ar lr cr) (tst n rs c rs.length bs).rows (.slice ab lb cb) (tst n rs c rs.length bs).bas) (fun i => c.length - i) 0 (Nat.zero_le _) (by exact Qu J ⟨rfl, rfl, rfl, rfl, rfl, rfl, trivial⟩) ?_
    intro i hi
    (try dsimp only at hi ⊢)
    have hcl := hL.cl; refine Qy (Qy (Qx fun K hK => ?_)); refine Qq J J J (Qq J J J (Q7 J J sInts.und (List.length_map ..) J (Qw ilss J J J J (Qj (hK _ _ (Qz ?_)))))); clear hK K; refine QK J (fun hlt => ?_) (fun hlt => ?_)
    · have e2 : (i : Int).toNat = i := Int.toNat_natCast i; have hcb := hL.cb i; have hW : Ok Tryz.prog 61 [intC (-(c.getD i 0))] (ratC ((-(c.getD i 0) : Int) : Rat)) := Zn (-(c.getD i 0)) (by omega) (by omega); refine QU (Qz (Qy (Q0 ?_))); refine Xv mixed 10 (.p 0 (.p 2 (.p 3 (.p 4 (.p 5 (.f 1 (.f 6 (.p 7 (.m 8 (.p 9 (.a 10 .done))))))))))) (by kernel_rfl) (fun K hK => ?_); refine QV J J J fG3 J (Qq J J J (Qq J J J (Qq J J J (Qh J J J sInts (by omega) (X3 (by omega) (by omega)) J ?_)))); refine QJ J J J J J lRat1 J (Xz J J J lInt J ?_); rw [e2]
      refine Ops.ineg J J (by omega) (by omega) J ?_
      refine QQ Zs hW J J J J (Qo 2 (n + rs.length + 2) J J J (by rw [Zz, List.length_map, cfR_len]) J sFracs (by omega) (by omega) J ?_); rw [e2]
      refine stFrX J J J J (by rw [List.length_map, cfR_len]; omega) szFrac ?_
      rw [show ((cfR (c.map fun x => -x) (n + rs.length + 2) i).map some).set i (some ((-(c.getD i 0) : Int) : Rat)) = (cfR (c.map fun x => -x) (n + rs.length + 2) (i + 1)).map some by rw [← cfR_set _ (by omega), List.map_set, neg_getD]]; refine Qj (hK _ _ (Qz ?_)); clear hK K; refine Qx (fun K hK => ?_); refine Qq J J J (Qw (iadd (by omega) (by omega)) J J J J ?_); refine Qv J J J (Qj (hK _ _ (Q4 ?_))); clear hK K; refine Qb (i + 1) (by omega) (by omega) (by exact Qu J ⟨rfl, rfl, rfl, rfl, rfl, by simp only [Int.natCast_add]; rfl, trivial⟩)
    · have hi' : i = c.length := by omega
      subst hi'; rw [← goal_zero hL (bs := bs)]
      refine St.frzX 2 1 3 _ J J J (frR_rats _ _) (fun _ h => h.elim) ?_
      refine Qr (Zy (Zy (Yl ?_))); exact XV hN () trivial (by exact Qu J ⟨rfl, rfl, rfl, rfl, trivial⟩)
  refine Qy ?_
  refine Zw (α := Unit) (fun _ => True) (fun _ => [(0, .ct (intC n)), (6, .own 0), (8, .own 1), (9, .ct (intC ((n : Int) + rs.length + 1)))])
    (fun _ => (1, .box 102 (taCs n rs.length (.slice ar lr cr) (tst n rs c rs.length bs).goal (.slice ab lb cb))) :: (0, .box 46 outZ) :: tEnt (.slice ar lr cr) (tst n rs c rs.length bs).rows (.slice ab lb cb) (tst n rs c rs.length bs).bas) (fun _ _ => sol34_end n rs c bs bf s hL hm6 H ar ab lr cr lb cb S w) (fun KK hN => ?_)
  refine Qy (Qx fun K hK => ?_); refine Qv J J J (Qj (hK _ _ (Qz (Q0 ?_)))); clear hK K
  refine Xq (α := Nat) (fun i => i ≤ rs.length)
    (fun i => [(0, .ct (intC n)), (6, .own 0), (8, .own 1), (9, .ct (intC ((n : Int) + rs.length + 1))), (15, .ct (intC i))])
    (fun i => (1, .box 102 (taCs n rs.length (.slice ar lr cr) (goalK n rs c bs i) (.slice ab lb cb))) :: (0, .box 46 outZ) :: tEnt (.slice ar lr cr) (tst n rs c rs.length bs).rows (.slice ab lb cb) (tst n rs c rs.length bs).bas) (fun i => rs.length - i) 0 (Nat.zero_le _) (by exact Qu J ⟨rfl, rfl, rfl, rfl, rfl, trivial⟩) ?_
  intro i hi
  (try dsimp only at hi ⊢)
  refine Qy (Qy (Qx fun K hK => ?_)); refine Qq J J J (QV J J J fG1 J (QJ J J J J J lInt J (Qw ilss J J J J (Qj (hK _ _ (Qz ?_)))))); clear hK K; refine QK J (fun hlt => ?_) (fun hlt => ?_)
  · have k2 : (i : Int).toNat * 1 = i := by omega
    have hlt : i < rs.length := by omega
    have hbi := tst_bas (n := n) (rs := rs) (c := c) (bs := bs) (g := rs.length) hlt
    have hTl : (tst n rs c rs.length bs).bas.length = rs.length := by simp [tst]
    have hRl : (tst n rs c rs.length bs).rows.length = rs.length := Zt _; have hv := hP.vc (by omega) hlt; have hgl := Yr (n := n) (rs := rs) (c := c) (bs := bs) i; have hown := hP.goal_own (by omega) hlt; have e5 : ((bs.getD i 0 : Nat) : Int).toNat = bs.getD i 0 := Int.toNat_natCast _; have hS := Jk (ofQ ((g0 n rs c (bs.getD i 0) : Int) : Rat)); rw [sgnF_q] at hS; refine QU (Qz (Qy (Q0 (Qy ?_)))); refine Xv mixed 11 (.p 0 (.p 2 (.p 4 (.f 1 (.f 3 (.p 5 (.f 6 (.p 7 (.f 8 (.m 9 (.p 10 .done))))))))))) (by kernel_rfl) (fun K hK => ?_); refine QV J J J fG3 J (QV J J J fG4 J (Qq J J J (QJ J J J J J lRat1 J (QJ J J J J J lInts J (Qo 9 rs.length J J J (by simp [ints, hTl]) J sInts (by omega) (by omega) J ?_))))); rw [k2]
    refine QJ J J J J (Xi (by omega)) lInt J ?_
    rw [hbi]
    refine Qh J J J sFracs (by omega) (Z1 (by omega) (by omega)) J ?_
    refine Xd (n := 3) J J J Xy J J ?_
    rw [e5, hown]; skip; refine QQ goSign hS J J J J (Qw ineq J J J J (Qj (hK _ _ (Qz ?_)))); clear hK K; refine QK J (fun hz => ?_) (fun hz => ?_)
    · have hQa := goalK_Q9 hL hm6 hP.bas.len hP.bas.ne (k := i) (by omega) (fun j hj => (hP.vc (by omega) (by omega)).2)
      have hQk : Q9 ((g0 n rs c (bs.getD i 0) : Int) : Rat) := by
        rw [← hown]; exact hQa _ (X1 (z := (0 : Rat)) (by omega))
      have hQb := rowQ_Q9 (i := i) hL hm6 hP.bas.len hP.bas.ne (by omega); have hLs := less34_ok (goalK n rs c bs i) (rowQ n rs c bs i) ((g0 n rs c (bs.getD i 0) : Int) : Rat) (by rw [YX, hgl]) (by omega) hQa hQb hQk; rw [← goal_next] at hLs; have hrow := Yz (n := n) (rs := rs) (c := c) (bs := bs) (g := rs.length) hlt; skip; refine Xv mixed 18 (.p 0 (.p 2 (.p 4 (.p 6 (.p 11 (.p 13 (.f 1 (.f 3 (.f 5 (.p 7 (.f 8 (.p 9 (.f 10 (.f 12 (.p 14 (.f 15 (.m 16 (.p 17 (.a 18 .done))))))))))))))))))) (by kernel_rfl) (fun K hK => ?_); refine QV J J J fG3 J (QV J J J fG3 J (QV J J J fG4 J (Qq J J J (QV J J J fG2 J (Qq J J J (QJ J J J J J lRat1 J (QJ J J J J J lRat1 J (QJ J J J J J lInts J (Qo 9 rs.length J J J (by simp [ints, hTl]) J sInts (by omega) (by omega) J ?_))))))))); rw [k2]
      refine QJ J J J J (Xi (by omega)) lInt J ?_
      rw [hbi]
      refine Qh J J J sFracs (by omega) (Z1 (by omega) (by omega)) J ?_
      refine Xd (n := 3) J J J Xy J J (QJ J J J J J lRat2 J ?_); rw [e5, hown]; skip
      refine Qo 8 rs.length J J J (by rw [rowsR_len, hRl]) J sRat2 (by omega) (by omega) J ?_
      rw [k2]
      refine QJ J J J J (rowsR_at (by omega)) lRat1 J ?_
      rw [hrow]; skip; refine QQ goless34 hLs J J J J (QV J J J fG3 J (Qn J J J J J zFracs (Nat.le_of_ble_eq_true J) (Qj (hK _ _ (Qz ?_))))); clear hK K; refine Qx (fun K hK => ?_); refine Qq J J J (Qw (iadd (by omega) (by omega)) J J J J ?_); refine Qv J J J (Qj (hK _ _ (Q4 ?_))); clear hK K; refine Qb (i + 1) (by omega) (by omega) (by exact Qu J ⟨rfl, rfl, rfl, rfl, by simp only [Int.natCast_add]; rfl, trivial⟩)
    · have hz0 : g0 n rs c (bs.getD i 0) = 0 := by
        have h1 : (((g0 n rs c (bs.getD i 0) : Int) : Rat)).num = g0 n rs c (bs.getD i 0) := rfl; rw [h1] at hz
        have h2 : (g0 n rs c (bs.getD i 0)).sign = 0 := by omega
        exact Int.sign_eq_zero_iff_zero.1 h2
      rw [← goal_skip hz0]; refine QU (Qz (Qx fun K hK => ?_)); refine Qq J J J (Qw (iadd (by omega) (by omega)) J J J J ?_); refine Qv J J J (Qj (hK _ _ (Q4 ?_))); clear hK K; refine Qb (i + 1) (by omega) (by omega) (by exact Qu J ⟨rfl, rfl, rfl, rfl, by simp only [Int.natCast_add]; rfl, trivial⟩)
  · have hi' : i = rs.length := by omega
    subst hi'; rw [hP.goal_all (by omega)]; refine Qr (Zy (Zy (Yl ?_))); exact XV hN () trivial (by exact Qu J ⟨rfl, rfl, rfl, rfl, trivial⟩)
end Go.Proofs.YtdhmbgogmoaofaaGreat
