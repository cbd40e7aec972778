import Derived.Test.YtdhmbgogmoaofaaGreatZ5
import Derived.ProofKit
import Derived.OpenShut
import Derived.ShutString
import Derived.ChangeOld
import Derived.Below
import Derived.DataElems
import Derived.Test.YtdhmbgogmoaofaaGreatRows
namespace Go.Proofs.YtdhmbgogmoaofaaGreat
open Go.Own Go.Limbs Go.Det
theorem sm_app (f : Nat → Int) (n : Nat) : ∀ m, sm f (n + m) = sm f n + sm (fun k => f (n + k)) m
  | 0 => by simp [sm]
  | m + 1 => by
    rw [show n + (m + 1) = (n + m) + 1 by omega]
    simp only [sm]
    rw [sm_app f n m]; omega
theorem sm_neg (f : Nat → Int) (m : Nat) : sm (fun k => -(f k)) m = -(sm f m) := by
  have := sm_mul (-1) f m
  rw [← sm_congr (f := fun k => -(f k)) (g := fun k => -1 * f k) fun k _ => by omega] at this
  omega
def ca (rs : List Rw) (i j : Nat) : Int := (rs.getD i rw0).cs.getD j 0
def cb (rs : List Rw) (i : Nat) : Int := (rs.getD i rw0).b
section
variable {n : Nat} {rs : List Rw} {c : List Int} {W : Nat} {T : Tv} {bs : List Nat}
def vx (n : Nat) (rs : List Rw) (c : List Int) (bs : List Nat) (x : Vec) (v : Nat) : Int := sm (fun k => if bs.getD k 0 = v then tt (colA n rs c) bs k x else 0) rs.length
theorem vx_row (h : Ph n rs c W T bs) {k : Nat} (hk : k < rs.length) (x : Vec) : vx n rs c bs x (bs.getD k 0) = tt (colA n rs c) bs k x := by
  unfold vx
  rw [sm_one hk fun j hj hjk => ?_, if_pos rfl]
  exact if_neg fun e => h.bas.ne (dup_zero (i := k) (k := j) (by rw [h.bas.len]; omega) (by rw [h.bas.len]; omega) hjk e.symm)
theorem vx_out {v : Nat} (hv : ∀ k, k < rs.length → bs.getD k 0 ≠ v) (x : Vec) : vx n rs c bs x v = 0 := sm_zero fun k hk => if_neg (hv k hk)
theorem vx_nn (x : Vec) (hx : ∀ k, k < rs.length → 0 ≤ tt (colA n rs c) bs k x) (v : Nat) : 0 ≤ vx n rs c bs x v := sm_nonneg fun k hk => by
  split
  · exact hx k hk
  · exact Int.le_refl _
theorem Ph.rowsum (h : Ph n rs c (n + rs.length) T bs) {x : Vec} (hx : Vok (rs.length + 2) x) {i : Nat} (hi : i ≤ rs.length) :
    Go.Det.den (colA n rs c) bs * x i = sm (fun v => colA n rs c v i * vx n rs c bs x v) (n + rs.length) + (if i = rs.length then tt (colA n rs c) bs rs.length x else 0) := by
  have e1 : sm (fun v => colA n rs c v i * vx n rs c bs x v) (n + rs.length) = sm (fun k => tt (colA n rs c) bs k x * colA n rs c (bs.getD k 0) i) rs.length := by
    have e2 : ∀ v, colA n rs c v i * vx n rs c bs x v = sm (fun k => colA n rs c v i * (if bs.getD k 0 = v then tt (colA n rs c) bs k x else 0)) rs.length := fun v => by unfold vx; rw [sm_mul]
    rw [sm_congr (g := fun v => sm (fun k => colA n rs c v i * (if bs.getD k 0 = v then tt (colA n rs c) bs k x else 0)) rs.length) fun v _ => e2 v]
    rw [sm_swap (fun k v => colA n rs c v i * (if bs.getD k 0 = v then tt (colA n rs c) bs k x else 0)) rs.length (n + rs.length)]
    refine sm_congr fun k hk => ?_
    have hb := h.good.cov.bas k hk
    rw [sm_one hb fun v _ hv => by rw [if_neg (Ne.symm hv), Int.mul_zero], if_pos rfl, Int.mul_comm]
  rw [h.comp hx, e1]
  simp only [sm]
  rw [h.z, h.w, colA_z, colA_w]
  have u2 : Go.Det.unit (rs.length + 1) i = 0 := if_neg (by omega)
  rw [u2, Int.mul_zero, Int.add_zero]
  by_cases hi2 : i = rs.length
  · rw [if_pos hi2, hi2, show Go.Det.unit rs.length rs.length = 1 from if_pos rfl, Int.mul_one]
  · rw [if_neg hi2, show Go.Det.unit rs.length i = 0 from if_neg hi2, Int.mul_zero]
theorem low_sum (i : Nat) (hi : i < rs.length) (y : Nat → Int) : sm (fun v => colA n rs c v i * y v) (n + rs.length) = sm (fun j => ca rs i j * y j) n + y (n + i) := by
  rw [sm_app]
  congr 1
  · exact sm_congr fun v hv => by rw [colA_low hv, if_pos hi]; rfl
  · rw [sm_one hi fun k hk hki => by rw [colA_slack hk, show Go.Det.unit k i = 0 from if_neg (Ne.symm hki), Int.zero_mul], colA_slack hi, show Go.Det.unit i i = 1 from if_pos rfl, Int.one_mul]
theorem goal_sum (y : Nat → Int) : sm (fun v => colA n rs c v rs.length * y v) (n + rs.length) = -(sm (fun j => c.getD j 0 * y j) n) := by
  rw [sm_app, sm_zero (f := fun k => colA n rs c (n + k) rs.length * y (n + k)) fun k hk => by rw [colA_slack hk, show Go.Det.unit k rs.length = 0 from if_neg (by omega), Int.zero_mul], Int.add_zero, ← sm_neg]
  exact sm_congr fun v hv => by rw [colA_low hv, if_neg (by omega), if_pos rfl]; grind
structure Feas (n : Nat) (rs : List Rw) (D : Int) (X : Nat → Int) : Prop where
  den : 0 < D
  nn : ∀ v, v < n → 0 ≤ X v
  row : ∀ i, i < rs.length → sm (fun j => ca rs i j * X j) n ≤ D * cb rs i
theorem Ph.point (h : Ph n rs c (n + rs.length) T bs) : Feas n rs (Go.Det.den (colA n rs c) bs) (vx n rs c bs (rhsQ rs)) ∧ sm (fun j => c.getD j 0 * vx n rs c bs (rhsQ rs) j) n = tt (colA n rs c) bs rs.length (rhsQ rs) := by
  have hnn := vx_nn (n := n) (rs := rs) (c := c) (bs := bs) (rhsQ rs) h.good.feas
  refine ⟨⟨den_pos h.bas.ne, fun v _ => hnn v, fun i hi => ?_⟩, ?_⟩
  · have h1 := h.rowsum (rhsQ_V (rs := rs)) (i := i) (by omega)
    rw [low_sum i hi, if_neg (by omega)] at h1
    have h2 := hnn (n + i)
    have h3 : rhsQ rs i = cb rs i := if_pos hi
    rw [h3] at h1
    omega
  · have h1 := h.rowsum (rhsQ_V (rs := rs)) (i := rs.length) (Nat.le_refl _)
    rw [goal_sum, if_pos rfl, show rhsQ rs rs.length = 0 from if_neg (by omega), Int.mul_zero] at h1
    omega
theorem Ph.func (h : Ph n rs c W T bs) {g : Nat} (hg : g < rs.length + 2) {x : Vec} (hx : Vok (rs.length + 2) x) : tt (colA n rs c) bs g x = sm (fun k => x k * tt (colA n rs c) bs g (Go.Det.unit k)) (rs.length + 2) := by
  have e : x = comb x Go.Det.unit (rs.length + 2) := by
    funext j
    unfold comb
    by_cases hj : j < rs.length + 2
    · rw [sm_one hj fun k _ hk => by simp [Go.Det.unit, Ne.symm hk]]; simp [Go.Det.unit]
    · rw [hx j (by omega), sm_zero fun k hk => by rw [show Go.Det.unit k j = 0 from if_neg (by omega), Int.mul_zero]]
  have e2 : dT (colA n rs c) bs g x = sm (fun k => x k * dT (colA n rs c) bs g (Go.Det.unit k)) (rs.length + 2) := by
    unfold dT
    conv => lhs; rw [e]
    exact dt_set_comb (by rw [cols_len, h.bas.len]; omega) _ _ _
  unfold tt
  rw [e2, ← sm_mul]
  exact sm_congr fun k _ => by grind
def yx (n : Nat) (rs : List Rw) (c : List Int) (bs : List Nat) (g i : Nat) : Int := tt (colA n rs c) bs g (colA n rs c (n + i))
theorem Ph.dual_sum (h : Ph n rs c W T bs) {g : Nat} (hg : g = rs.length ∨ g = rs.length + 1) {x : Vec} (hx : Vok (rs.length + 2) x) (hx1 : x (rs.length + 1) = 0) :
    tt (colA n rs c) bs g x = sm (fun i => x i * yx n rs c bs g i) rs.length + (if g = rs.length then x rs.length * Go.Det.den (colA n rs c) bs else 0) := by
  rw [h.func (by omega) hx]
  simp only [sm]
  rw [hx1, Int.zero_mul, Int.add_zero]
  congr 1
  · exact sm_congr fun k hk => by rw [← colA_slack (n := n) (c := c) hk]; rfl
  · rw [← colA_z (n := n) (c := c), ← h.z]
    rcases hg with rfl | rfl
    · rw [if_pos rfl, tt_own h.bas.len (by omega)]
    · rw [if_neg (by omega), tt_other h.bas.len (by omega) (by omega) (by omega), Int.mul_zero]
theorem colA_w0 {v : Nat} (hv : v < n + rs.length) : colA n rs c v (rs.length + 1) = 0 := by
  by_cases h1 : v < n
  · rw [colA_low h1, if_neg (by omega), if_neg (by omega)]
  · obtain ⟨i, rfl⟩ : ∃ i, v = n + i := ⟨v - n, by omega⟩
    rw [colA_slack (by omega)]; exact if_neg (by omega)
structure Dual (n : Nat) (rs : List Rw) (c : List Int) (D : Int) (Y : Nat → Int) : Prop where
  den : 0 < D
  nn : ∀ i, i < rs.length → 0 ≤ Y i
  col : ∀ j, j < n → D * c.getD j 0 ≤ sm (fun i => ca rs i j * Y i) rs.length
theorem Ph.dual (h : Ph n rs c W T bs) (hc : ∀ v, v < n + rs.length → 0 ≤ tt (colA n rs c) bs rs.length (colA n rs c v)) :
    Dual n rs c (Go.Det.den (colA n rs c) bs) (yx n rs c bs rs.length) ∧ sm (fun i => cb rs i * yx n rs c bs rs.length i) rs.length = tt (colA n rs c) bs rs.length (rhsQ rs) := by
  refine ⟨⟨den_pos h.bas.ne, fun i hi => hc (n + i) (by omega), fun j hj => ?_⟩, ?_⟩
  · have h1 := h.dual_sum (.inl rfl) (colA_V (n := n) (rs := rs) (c := c) j) (colA_w0 (by omega))
    have h2 := hc j (by omega)
    rw [h1, if_pos rfl, colA_low hj, if_neg (by omega), if_pos rfl] at h2
    have e : sm (fun i => colA n rs c j i * yx n rs c bs rs.length i) rs.length = sm (fun i => ca rs i j * yx n rs c bs rs.length i) rs.length := sm_congr fun i hi => by rw [colA_low hj, if_pos hi]; rfl
    rw [e] at h2
    have : -c.getD j 0 * Go.Det.den (colA n rs c) bs = -(Go.Det.den (colA n rs c) bs * c.getD j 0) := by grind
    omega
  · have h1 := h.dual_sum (.inl rfl) (rhsQ_V (rs := rs)) (show rhsQ rs (rs.length + 1) = 0 from if_neg (by omega))
    rw [h1, if_pos rfl, show rhsQ rs rs.length = 0 from if_neg (by omega), Int.zero_mul, Int.add_zero]
    exact sm_congr fun i hi => by rw [show rhsQ rs i = cb rs i from if_pos hi]
structure Refu (n : Nat) (rs : List Rw) (D : Int) (Y : Nat → Int) : Prop where
  den : 0 < D
  nn : ∀ i, i < rs.length → 0 ≤ Y i
  col : ∀ j, j < n → 0 ≤ sm (fun i => ca rs i j * Y i) rs.length
  neg : sm (fun i => cb rs i * Y i) rs.length < 0
theorem End1.refu {E : Tv} (h : End1 n rs c T E bs) (hv : tt (colA n rs c) bs (rs.length + 1) (rhsQ rs) < 0) : Refu n rs (Go.Det.den (colA n rs c) bs) (yx n rs c bs (rs.length + 1)) := by
  refine ⟨den_pos h.ph.bas.ne, fun i hi => h.cover (n + i) (by omega), fun j hj => ?_, ?_⟩
  · have h1 := h.ph.dual_sum (.inr rfl) (colA_V (n := n) (rs := rs) (c := c) j) (colA_w0 (by omega))
    have h2 := h.cover j (by omega)
    rw [h1, if_neg (by omega), Int.add_zero] at h2
    rw [sm_congr (g := fun i => ca rs i j * yx n rs c bs (rs.length + 1) i) fun i hi => by rw [colA_low hj, if_pos hi]; rfl] at h2
    exact h2
  · have h1 := h.ph.dual_sum (.inr rfl) (rhsQ_V (rs := rs)) (show rhsQ rs (rs.length + 1) = 0 from if_neg (by omega))
    rw [if_neg (by omega), Int.add_zero] at h1
    rw [h1, sm_congr (g := fun i => cb rs i * yx n rs c bs (rs.length + 1) i) fun i hi => by rw [show rhsQ rs i = cb rs i from if_pos hi]] at hv
    exact hv
structure Ray (n : Nat) (rs : List Rw) (c : List Int) (D : Int) (Z : Nat → Int) : Prop where
  den : 0 < D
  nn : ∀ v, v < n → 0 ≤ Z v
  row : ∀ i, i < rs.length → sm (fun j => ca rs i j * Z j) n ≤ 0
  goal : 0 < sm (fun j => c.getD j 0 * Z j) n
def zx (n : Nat) (rs : List Rw) (c : List Int) (bs : List Nat) (s v : Nat) : Int := (if v = s then Go.Det.den (colA n rs c) bs else 0) - vx n rs c bs (colA n rs c s) v
theorem Ph.ray (h : Ph n rs c (n + rs.length) T bs) {s : Nat} (hs : s < n + rs.length) (hb : ∀ k, k < rs.length → bs.getD k 0 ≠ s) (hg : tt (colA n rs c) bs rs.length (colA n rs c s) < 0) (hl : ∀ k, k < rs.length → tt (colA n rs c) bs k (colA n rs c s) ≤ 0) :
    Ray n rs c (Go.Det.den (colA n rs c) bs) (zx n rs c bs s) := by
  have hd := den_pos h.bas.ne
  have hv0 : ∀ v, vx n rs c bs (colA n rs c s) v ≤ 0 := fun v => by
    have : sm (fun k => if bs.getD k 0 = v then tt (colA n rs c) bs k (colA n rs c s) else 0) rs.length ≤ sm (fun _ => 0) rs.length := sm_le fun k hk => by
      split
      · exact hl k hk
      · exact Int.le_refl _
    rw [sm_zero (f := fun _ => 0) fun _ _ => rfl] at this
    exact this
  have hnn : ∀ v, 0 ≤ zx n rs c bs s v := fun v => by
    unfold zx
    have := hv0 v
    split <;> omega
  have hsum : ∀ i, sm (fun v => colA n rs c v i * zx n rs c bs s v) (n + rs.length) = Go.Det.den (colA n rs c) bs * colA n rs c s i - sm (fun v => colA n rs c v i * vx n rs c bs (colA n rs c s) v) (n + rs.length) := fun i => by
    have e : sm (fun v => colA n rs c v i * zx n rs c bs s v) (n + rs.length) = sm (fun v => (if v = s then colA n rs c v i * Go.Det.den (colA n rs c) bs else 0) + (-1) * (colA n rs c v i * vx n rs c bs (colA n rs c s) v)) (n + rs.length) := sm_congr fun v _ => by
      unfold zx
      split <;> grind
    rw [e, sm_add, sm_mul, sm_one hs fun v _ hv => if_neg hv, if_pos rfl, Int.mul_comm]
    omega
  refine ⟨hd, fun v _ => hnn v, fun i hi => ?_, ?_⟩
  · have h1 := h.rowsum (colA_V (n := n) (rs := rs) (c := c) s) (i := i) (by omega)
    rw [if_neg (by omega), Int.add_zero] at h1
    have h2 := hsum i
    rw [h1, Int.sub_self, low_sum i hi] at h2
    have := hnn (n + i)
    omega
  · have h1 := h.rowsum (colA_V (n := n) (rs := rs) (c := c) s) (i := rs.length) (Nat.le_refl _)
    rw [if_pos rfl] at h1
    have h2 := hsum rs.length
    rw [goal_sum] at h2
    omega
theorem Ph.pt_at (h : Ph n rs c (n + rs.length) T bs) {v : Nat} (hv : v < n) : (ptS T n T.bas.length).getD v 0 = shq (vx n rs c bs (rhsQ rs) v) (Go.Det.den (colA n rs c) bs) := by
  have hV := h.good.view
  rw [hV.basl]
  have key : ∀ q, q ≤ rs.length → (ptS T n q).getD v 0 = shq (sm (fun k => if bs.getD k 0 = v then tt (colA n rs c) bs k (rhsQ rs) else 0) q) (Go.Det.den (colA n rs c) bs) := by
    intro q hq
    induction q with
    | zero => simp only [ptS, sm, shq_zero]; simp [List.getD_eq_getElem?_getD, List.getElem?_replicate, hv]
    | succ q ih =>
      have ih := ih (by omega)
      have hbq := hV.basv q (by omega)
      have hl := ptS_len T n q
      simp only [ptS, sm]
      by_cases h1 : bs.getD q 0 = v
      · rw [if_pos (by rw [hbq, h1]; omega), hbq, h1, Int.toNat_natCast, set_getD (by omega), if_pos rfl, if_pos rfl, hV.den]
        rw [sm_zero fun k hk => if_neg fun e => h.bas.ne (dup_zero (i := q) (k := k) (by rw [h.bas.len]; omega) (by rw [h.bas.len]; omega) (by omega) (by rw [h1, e]))]
        rw [Int.zero_add, hV.rhs q (by have := hV.rm; omega)]
      · rw [if_neg h1, Int.add_zero, ← ih]
        split
        · rw [hbq, Int.toNat_natCast, set_getD (by rw [hl]; omega), if_neg h1]
        · rfl
  exact key rs.length (Nat.le_refl _)
theorem Ph.du_at (h : Ph n rs c W T bs) {g i : Nat} (hW : n + rs.length ≤ W) (hg : rs.length ≤ g) (hgT : g < T.rows.length) (hi : i < rs.length) : (duS T n rs.length g T.col.length).getD i 0 = shq (yx n rs c bs g i) (Go.Det.den (colA n rs c) bs) := by
  have hV := h.good.view
  have hC := h.good.cov
  have hl := duS_len T n rs.length g
  have hgM : g < rs.length + 2 := by have := hV.rM; omega
  have none : ∀ q, q ≤ T.col.length → (∀ j, j < q → T.col.getD j 0 ≠ ((n + i : Nat) : Int)) → (duS T n rs.length g q).getD i 0 = 0 := by
    intro q hq hn
    induction q with
    | zero => simp only [duS]; simp [List.getD_eq_getElem?_getD, List.getElem?_replicate, hi]
    | succ q ih =>
      have ih := ih (by omega) (fun j hj => hn j (by omega))
      simp only [duS]
      split
      · rw [set_getD (by rw [hl]; omega), if_neg (by have := hn q (by omega); omega)]; exact ih
      · exact ih
  rcases hC.all (n + i) (by omega) with ⟨k, hk, he⟩ | ⟨j, hj, he⟩
  · have hy : yx n rs c bs g i = 0 := by
      unfold yx
      rw [← he]; exact tt_other h.bas.len hgM (by omega) (by omega)
    rw [hy, shq_zero]
    refine none _ (Nat.le_refl _) (fun j hj e => ?_)
    have := hC.dis j k hj hk
    omega
  · have hy : yx n rs c bs g i = T.at g j := by
      rw [hV.num g hgT j hj, he, Int.toNat_natCast]; rfl
    have key : ∀ q, q ≤ T.col.length → j < q → (duS T n rs.length g q).getD i 0 = shq (T.at g j) T.den := by
      intro q hq hjq
      induction q with
      | zero => omega
      | succ q ih =>
        simp only [duS]
        by_cases h1 : j = q
        · subst h1
          rw [if_pos (by omega), set_getD (by rw [hl]; omega), if_pos (by omega)]
        · have ih := ih (by omega) (by omega)
          split
          · rw [set_getD (by rw [hl]; omega), if_neg (by have := hC.inj j q hj (by omega) h1; omega)]; exact ih
          · exact ih
    rw [key _ (Nat.le_refl _) hj, hy, hV.den]
theorem Ph.ra_at (h : Ph n rs c (n + rs.length) T bs) {e s v : Nat} (he : e < T.col.length) (hs : T.col.getD e 0 = (s : Int)) (hv : v < n) : (raS T n e T.bas.length).getD v 0 = shq (zx n rs c bs s v) (Go.Det.den (colA n rs c) bs) := by
  have hV := h.good.view
  have hC := h.good.cov
  rw [hV.basl]
  have hnb : ∀ k, k < rs.length → bs.getD k 0 ≠ s := fun k hk e2 => by have := hC.dis e k he hk; omega
  have key : ∀ q, q ≤ rs.length → (raS T n e q).getD v 0 = shq ((if v = s then Go.Det.den (colA n rs c) bs else 0) - sm (fun k => if bs.getD k 0 = v then tt (colA n rs c) bs k (colA n rs c s) else 0) q) (Go.Det.den (colA n rs c) bs) := by
    intro q hq
    induction q with
    | zero =>
      simp only [raS, sm, Int.sub_zero]
      rw [hs]
      by_cases h1 : v = s
      · subst h1
        rw [if_pos (by omega), Int.toNat_natCast, set_getD (by simp; omega), if_pos rfl, if_pos rfl, hV.den]
      · rw [if_neg h1, shq_zero]
        split
        · rw [Int.toNat_natCast, set_getD (by simp; omega), if_neg (Ne.symm h1)]; simp [List.getD_eq_getElem?_getD, List.getElem?_replicate, hv]
        · simp [List.getD_eq_getElem?_getD, List.getElem?_replicate, hv]
    | succ q ih =>
      have ih := ih (by omega)
      have hbq := hV.basv q (by omega)
      have hl := raS_len T n e q
      simp only [raS, sm]
      by_cases h1 : bs.getD q 0 = v
      · have hvs : v ≠ s := fun e2 => hnb q (by omega) (by rw [h1, e2])
        rw [if_pos (by rw [hbq, h1]; omega), hbq, h1, Int.toNat_natCast, set_getD (by omega), if_pos rfl, if_pos rfl, if_neg hvs, hV.den]
        rw [sm_zero fun k hk => if_neg fun e2 => h.bas.ne (dup_zero (i := q) (k := k) (by rw [h.bas.len]; omega) (by rw [h.bas.len]; omega) (by omega) (by rw [h1, e2]))]
        rw [hV.num q (by have := hV.rm; omega) e he, hs, Int.toNat_natCast]
        congr 1; omega
      · rw [if_neg h1, Int.add_zero, ← ih]
        split
        · rw [hbq, Int.toNat_natCast, set_getD (by rw [hl]; omega), if_neg h1]
        · rfl
  exact key rs.length (Nat.le_refl _)
end
end Go.Proofs.YtdhmbgogmoaofaaGreat
namespace Go.Proofs.YtdhmbgogmoaofaaGreat
open Go.Own Go.Limbs Go.Det
def ptl (n : Nat) (X : Nat → Int) (D : Int) : List Fr := (List.range n).map fun v => ofQ (shq (X v) D)
theorem list_range {α : Type} {l : List α} {n : Nat} {f : Nat → α} {z : α} (hl : l.length = n) (h : ∀ v, v < n → l.getD v z = f v) : l = (List.range n).map f := by
  subst hl
  rw [← range_self l z]
  rw [List.length_map, List.length_range]
  exact List.map_congr_left fun v hv => h v (by simpa using hv)
def Kt (m : Nat) : Nat := (m + 2) * (4503599627370496 * (fact (m + 2) * 1048576 ^ (m + 2)))
inductive Sol (n : Nat) (rs : List Rw) (c : List Int) : Oc → Prop
  | opt (D : Int) (X Y : Nat → Int) (val : Int) (hX : Feas n rs D X) (hv : sm (fun j => c.getD j 0 * X j) n = val) (hY : Dual n rs c D Y) (hw : sm (fun i => cb rs i * Y i) rs.length = val)
      (b1 : D.natAbs ≤ Kt rs.length) (b2 : ∀ v, v < n → (X v).natAbs ≤ Kt rs.length) (b3 : ∀ i, i < rs.length → (Y i).natAbs ≤ Kt rs.length) (b4 : val.natAbs ≤ Kt rs.length) : Sol n rs c ⟨1, ofQ (shq val D), ptl n X D, [], ptl rs.length Y D⟩
  | unb (D : Int) (X Z : Nat → Int) (hX : Feas n rs D X) (hZ : Ray n rs c D Z)
      (b1 : D.natAbs ≤ Kt rs.length) (b2 : ∀ v, v < n → (X v).natAbs ≤ Kt rs.length) (b3 : ∀ v, v < n → (Z v).natAbs ≤ Kt rs.length) : Sol n rs c ⟨2, frz0, ptl n X D, ptl n Z D, []⟩
  | emp (D : Int) (Y : Nat → Int) (hY : Refu n rs D Y) (b1 : D.natAbs ≤ Kt rs.length) (b3 : ∀ i, i < rs.length → (Y i).natAbs ≤ Kt rs.length) : Sol n rs c ⟨3, frz0, [], [], ptl rs.length Y D⟩
section
variable {n : Nat} {rs : List Rw} {c : List Int} {W : Nat} {T : Tv} {bs : List Nat}
theorem dT_Kt (h : LpOk n rs c) {i : Nat} {x : Vec} (hl : bs.length = rs.length + 2) (hi : i < rs.length + 2) (hx2 : x = rhsQ rs ∨ ∃ v, x = colA n rs c v) : (dT (colA n rs c) bs i x).natAbs ≤ Kt rs.length := by
  have dtb : ∀ l : List Vec, l.length = rs.length + 2 → (∀ x ∈ l, ∀ i, (x i).natAbs ≤ 1048576) → (dt l).natAbs ≤ fact (rs.length + 2) * 1048576 ^ (rs.length + 2) := fun l hl hA => by
    have h1 := dt_bd l hA
    rwa [hl] at h1
  unfold Kt
  rcases hx2 with rfl | ⟨v, rfl⟩
  · have e : rhsQ rs = comb (rhsQ rs) Go.Det.unit (rs.length + 2) := by
      funext j
      unfold comb
      by_cases hj : j < rs.length + 2
      · rw [sm_one hj fun k _ hk => by simp [Go.Det.unit, Ne.symm hk]]; simp [Go.Det.unit]
      · rw [rhsQ_V j (by omega), sm_zero fun k hk => by rw [show Go.Det.unit k j = 0 from if_neg (by omega), Int.mul_zero]]
    have e2 : dT (colA n rs c) bs i (rhsQ rs) = sm (fun k => rhsQ rs k * dt ((cols (colA n rs c) bs).set i (Go.Det.unit k))) (rs.length + 2) := by
      unfold dT
      conv => lhs; rw [e]
      exact dt_set_comb (by rw [cols_len]; omega) _ _ _
    rw [e2]
    refine sm_natAbs fun k _ => ?_
    rw [Int.natAbs_mul]
    refine Nat.mul_le_mul ?_ (dtb _ (by rw [List.length_set, cols_len]; exact hl) fun x hx i => ?_)
    · unfold rhsQ
      split
      · rename_i h2; exact h.bb _ (rs_mem h2)
      · decide
    · rcases mem_set_or hx with h3 | h3
      · exact cols_bd h h3 i
      · rw [h3]; unfold Go.Det.unit; split <;> decide
  · refine Nat.le_trans (dtb _ (by rw [List.length_set, cols_len]; exact hl) fun x hx i => ?_) ?_
    · rcases mem_set_or hx with h3 | h3
      · exact cols_bd h h3 i
      · rw [h3]; exact colA_bd h v i
    · exact Nat.le_trans (Nat.le_mul_of_pos_left _ (by decide)) (Nat.le_mul_of_pos_left _ (by omega))
theorem sgn_le1 (d : Int) : d.sign.natAbs ≤ 1 := by rw [Int.natAbs_sign]; split <;> omega
theorem tt_Kt (h : LpOk n rs c) {i : Nat} {x : Vec} (hl : bs.length = rs.length + 2) (hi : i < rs.length + 2) (hx2 : x = rhsQ rs ∨ ∃ v, x = colA n rs c v) : (tt (colA n rs c) bs i x).natAbs ≤ Kt rs.length := by
  unfold tt
  rw [Int.natAbs_mul]
  have h1 := Nat.mul_le_mul (sgn_le1 (dD (colA n rs c) bs)) (dT_Kt h hl hi hx2)
  omega
theorem den_Kt (h : LpOk n rs c) (hP : Ph n rs c W T bs) : (Go.Det.den (colA n rs c) bs).natAbs ≤ Kt rs.length := by
  have := tt_Kt h (i := rs.length) hP.bas.len (by omega) (.inr ⟨bs.getD rs.length 0, rfl⟩)
  rwa [tt_own hP.bas.len (by omega)] at this
theorem vx_Kt (h : LpOk n rs c) (hP : Ph n rs c W T bs) {x : Vec} (hx2 : x = rhsQ rs ∨ ∃ v, x = colA n rs c v) (v : Nat) : (vx n rs c bs x v).natAbs ≤ Kt rs.length := by
  by_cases hb : ∃ k, k < rs.length ∧ bs.getD k 0 = v
  · obtain ⟨k, hk, rfl⟩ := hb
    rw [vx_row hP hk]; exact tt_Kt h hP.bas.len (by omega) hx2
  · rw [vx_out fun k hk e => hb ⟨k, hk, e⟩]; exact Nat.zero_le _
theorem lp_sol (hL : LpOk n rs c) : ∃ T E F s, SolRun n rs c T E F s ∧ Sol n rs c (ocOf n rs.length T E F s) := by
  have hS := lp_sys hL
  let T : Tv := ⟨.slice none 0 0, .slice none 0 0, .slice none 0 0, List.replicate (rs.length + 1) default, (rs.map fun r => lnOf n r.cs r.b) ++ [lnOf n (c.map fun x => -x) 0], rng n rs.length, rng 0 n, 1⟩
  have hB : Beg n rs c T := ⟨rfl, rfl, rfl, rfl, by show (List.replicate _ _).length = _; simp [T]⟩
  have hbl : T.bas.length = rs.length := by rw [hB.bas, rng_len]
  have hcl : T.col.length = n := by rw [hB.col, rng_len]
  obtain ⟨E, hst, hE⟩ := hB.start hL
  generalize T = T at *
  have second : ∀ P bs, Ph n rs c (n + rs.length) P bs → P.rows.length = rs.length + 1 → P.col.length = n → stOut T E ((n + rs.length : Nat) : Int) = P → stRes T E = true →
      ∃ F s, SolRun n rs c T E F s ∧ Sol n rs c (ocOf n rs.length T E F s) := by
    intro P bs hP hPr hPc hout hres
    obtain ⟨k, F, s, bf, hR, hG, hEn, hr, hj⟩ := hP.good.ends hS (g := rs.length) (Nat.le_refl _) (by rw [hPr]; omega) (hP.small (Nat.le_refl _))
    have hF : Ph n rs c (n + rs.length) F bf := ⟨hG, by rw [hj _ (Nat.le_refl _)]; exact hP.z, by rw [hj _ (by omega)]; exact hP.w⟩
    have hV := hG.view
    have hlen := hR.lens
    have hcol : ∀ i, 0 ≤ F.col.getD i 0 := hV.colv
    have hbas : ∀ i, 0 ≤ F.bas.getD i 0 := fun i => by
      by_cases h1 : i < rs.length
      · rw [hV.basv i h1]; omega
      · rw [getD_ge (by rw [hV.basl]; omega)]; exact Int.le_refl _
    have hpt : (ptS F n F.bas.length).map ofQ = ptl n (vx n rs c bf (rhsQ rs)) (Go.Det.den (colA n rs c) bf) := by
      rw [list_range (ptS_len F n _) (fun v hv => hF.pt_at hv), List.map_map]; rfl
    have hpo := hF.point
    have hdK := den_Kt hL hF
    have hvK := fun v => vx_Kt hL hF (.inl rfl) v
    rcases hEn with ⟨hs, h1⟩ | ⟨e, hs, he, h1, h2⟩
    · refine ⟨F, s, ⟨hB, hst, fun h => (by rw [hres] at h; cases h), fun _ => ⟨k, by rw [hout]; exact hR⟩, fun _ => ⟨by rw [hr, hPr], hcol, hbas, by rw [hs]; omega, by rw [hs]; decide⟩⟩, ?_⟩
      have hdu := hF.dual h1
      have e1 : ocOf n rs.length T E F s = ⟨1, ofQ (shq (F.at rs.length F.col.length) F.den), (ptS F n F.bas.length).map ofQ, [], (duS F n rs.length rs.length F.col.length).map ofQ⟩ := by
        unfold ocOf; rw [if_neg (by rw [hres]; decide), if_neg (by rw [hs]; decide)]
      have hdl : (duS F n rs.length rs.length F.col.length).map ofQ = ptl rs.length (yx n rs c bf rs.length) (Go.Det.den (colA n rs c) bf) := by
        rw [list_range (duS_len F n rs.length rs.length _) (fun i hi => hF.du_at (Nat.le_refl _) (Nat.le_refl _) (by rw [hr, hPr]; omega) hi), List.map_map]; rfl
      rw [e1, hpt, hdl, hV.rhs rs.length (by rw [hr, hPr]; omega), hV.den]
      exact .opt _ _ _ _ hpo.1 hpo.2 hdu.1 hdu.2 hdK (fun v _ => hvK v) (fun i _ => tt_Kt hL hF.bas.len (by omega) (.inr ⟨_, rfl⟩)) (tt_Kt hL hF.bas.len (by omega) (.inl rfl))
    · refine ⟨F, s, ⟨hB, hst, fun h => (by rw [hres] at h; cases h), fun _ => ⟨k, by rw [hout]; exact hR⟩, fun _ => ⟨by rw [hr, hPr], hcol, hbas, by rw [hs]; omega, by rw [hs]; omega⟩⟩, ?_⟩
      have hcW := hG.cov.col e he
      have hcn := hcol e
      obtain ⟨v0, hv0⟩ : ∃ v0 : Nat, F.col.getD e 0 = v0 := ⟨(F.col.getD e 0).toNat, by omega⟩
      rw [hv0, Int.toNat_natCast] at h1 h2
      have hnb : ∀ k, k < rs.length → bf.getD k 0 ≠ v0 := fun k hk e2 => by have := hG.cov.dis e k he hk; omega
      have hra := hF.ray (s := v0) (by omega) hnb h1 h2
      have e1 : ocOf n rs.length T E F s = ⟨2, frz0, (ptS F n F.bas.length).map ofQ, (raS F n e F.bas.length).map ofQ, []⟩ := by
        unfold ocOf; rw [if_neg (by rw [hres]; decide), if_pos (by omega), hs, Int.toNat_natCast]
      have hrl : (raS F n e F.bas.length).map ofQ = ptl n (zx n rs c bf v0) (Go.Det.den (colA n rs c) bf) := by
        rw [list_range (raS_len F n e _) (fun v hv => hF.ra_at he hv0 hv), List.map_map]; rfl
      rw [e1, hpt, hrl]
      refine .unb _ _ _ hpo.1 hra hdK (fun v _ => hvK v) (fun v _ => ?_)
      have hb := vx_Kt hL hF (x := colA n rs c v0) (.inr ⟨_, rfl⟩) v
      unfold zx
      by_cases h3 : v = v0
      · rw [if_pos h3, h3, vx_out hnb, Int.sub_zero]; exact hdK
      · rw [if_neg h3]; omega
  cases hE with
  | keep hw h hc =>
    have hout : stOut T E ((n + rs.length : Nat) : Int) = T := by unfold stOut; rw [hbl, if_pos hw]
    have hres : stRes T E = true := by unfold stRes; rw [hbl, decide_eq_true hw]; rfl
    obtain ⟨F, s, h1, h2⟩ := second T _ h hB.len hc hout hres
    exact ⟨T, E, F, s, h1, h2⟩
  | none bs hw h hv ha =>
    have hres : stRes T E = false := by unfold stRes; rw [hbl, hcl, decide_eq_false (by omega), decide_eq_true ha]; rfl
    have hP := h.ph
    have hV := hP.good.view
    have e1 : ocOf n rs.length T E E 0 = ⟨3, frz0, [], [], (duS E n rs.length (rs.length + 1) E.col.length).map ofQ⟩ := by
      unfold ocOf; rw [if_pos hres]
    have hdl : (duS E n rs.length (rs.length + 1) E.col.length).map ofQ = ptl rs.length (yx n rs c bs (rs.length + 1)) (Go.Det.den (colA n rs c) bs) := by
      rw [list_range (duS_len E n rs.length (rs.length + 1) _) (fun i hi => hP.du_at (by omega) (by omega) (by rw [h.rows]; omega) hi), List.map_map]; rfl
    refine ⟨T, E, E, 0, ⟨hB, hst, fun _ => ⟨hV.gd hS hP.good.hl hP.good.few hP.good.thin, h.rows, hV.colv⟩, fun h1 => (by rw [hres] at h1; cases h1), fun h1 => (by rw [hres] at h1; cases h1)⟩, ?_⟩
    rw [e1, hdl]
    exact .emp _ _ (h.refu hv) (den_Kt hL hP) (fun i _ => tt_Kt hL hP.bas.len (by omega) (.inr ⟨_, rfl⟩))
  | some bs hw ha h hc hr =>
    have hout : stOut T E ((n + rs.length : Nat) : Int) = stE3 E rs.length n ((n + rs.length : Nat) : Int) := by unfold stOut; rw [hbl, hcl, if_neg (by omega), if_neg ha]
    have hres : stRes T E = true := by unfold stRes; rw [hbl, hcl, decide_eq_false ha]; simp
    obtain ⟨F, s, h1, h2⟩ := second _ _ h hr hc hout hres
    exact ⟨T, E, F, s, h1, h2⟩
theorem sm_mul_r (f : Nat → Int) (c : Int) (n : Nat) : sm (fun k => f k * c) n = sm f n * c := by
  rw [sm_congr (g := fun k => c * f k) fun k _ => Int.mul_comm _ _, sm_mul, Int.mul_comm]
theorem comb_swap (rs : List Rw) (X Y : Nat → Int) (n : Nat) : sm (fun j => sm (fun i => ca rs i j * Y i) rs.length * X j) n = sm (fun i => Y i * sm (fun j => ca rs i j * X j) n) rs.length := by
  rw [sm_congr (g := fun j => sm (fun i => ca rs i j * Y i * X j) rs.length) fun j _ => (sm_mul_r _ _ _).symm]
  rw [sm_swap (fun i j => ca rs i j * Y i * X j) rs.length n]
  exact sm_congr fun i _ => by
    rw [← sm_mul]
    exact sm_congr fun j _ => by grind
theorem weak {D D' : Int} {X Y : Nat → Int} (hX : Feas n rs D X) (hY : Dual n rs c D' Y) : D' * sm (fun j => c.getD j 0 * X j) n ≤ D * sm (fun i => cb rs i * Y i) rs.length := by
  have h1 : D' * sm (fun j => c.getD j 0 * X j) n ≤ sm (fun j => sm (fun i => ca rs i j * Y i) rs.length * X j) n := by
    rw [← sm_mul]
    refine sm_le fun j hj => ?_
    have := Int.mul_le_mul_of_nonneg_right (hY.col j hj) (hX.nn j hj)
    rw [← Int.mul_assoc]; exact this
  rw [comb_swap] at h1
  refine Int.le_trans h1 ?_
  rw [← sm_mul]
  refine sm_le fun i hi => ?_
  have := Int.mul_le_mul_of_nonneg_left (hX.row i hi) (hY.nn i hi)
  have e : Y i * (D * cb rs i) = D * (cb rs i * Y i) := by grind
  rw [← e]; exact this
theorem no_refu {D D' : Int} {X Y : Nat → Int} (hX : Feas n rs D X) (hY : Refu n rs D' Y) : False := by
  have h1 : 0 ≤ sm (fun j => sm (fun i => ca rs i j * Y i) rs.length * X j) n := sm_nonneg fun j hj => Int.mul_nonneg (hY.col j hj) (hX.nn j hj)
  rw [comb_swap] at h1
  have h2 : sm (fun i => Y i * sm (fun j => ca rs i j * X j) n) rs.length ≤ D * sm (fun i => cb rs i * Y i) rs.length := by
    rw [← sm_mul]
    refine sm_le fun i hi => ?_
    have := Int.mul_le_mul_of_nonneg_left (hX.row i hi) (hY.nn i hi)
    have e : Y i * (D * cb rs i) = D * (cb rs i * Y i) := by grind
    rw [← e]; exact this
  have h3 := Int.mul_neg_of_pos_of_neg hX.den hY.neg
  omega
theorem no_ray {D D' : Int} {Z Y : Nat → Int} (hZ : Ray n rs c D Z) (hY : Dual n rs c D' Y) : False := by
  have h1 : D' * sm (fun j => c.getD j 0 * Z j) n ≤ sm (fun j => sm (fun i => ca rs i j * Y i) rs.length * Z j) n := by
    rw [← sm_mul]
    refine sm_le fun j hj => ?_
    have := Int.mul_le_mul_of_nonneg_right (hY.col j hj) (hZ.nn j hj)
    rw [← Int.mul_assoc]; exact this
  rw [comb_swap] at h1
  have h2 : sm (fun i => Y i * sm (fun j => ca rs i j * Z j) n) rs.length ≤ sm (fun _ => 0) rs.length := sm_le fun i hi => Int.mul_nonpos_of_nonneg_of_nonpos (hY.nn i hi) (hZ.row i hi)
  rw [sm_zero (f := fun _ => 0) fun _ _ => rfl] at h2
  have h3 := Int.mul_pos hY.den hZ.goal
  omega
end
end Go.Proofs.YtdhmbgogmoaofaaGreat
namespace Go.Proofs.YtdhmbgogmoaofaaGreat
open Go.Own Go.Limbs Go.Det
structure F6 (f : Fr) : Prop where
  num : f.num < 1073741824 ^ 6
  den : f.den < 1073741824 ^ 6
  pos : 0 < f.den
  neg : f.neg = true → f.num ≠ 0
theorem F6.vf {f : Fr} (h : F6 f) : VF f := ⟨Nat.le_trans (limbs_length_le h.num) (by decide), Nat.le_trans (limbs_length_le h.den) (by decide), h.pos, h.neg⟩
theorem F6.of {f : Fr} (h : VF f) (h1 : (limbs f.num).length ≤ 6) (h2 : (limbs f.den).length ≤ 6) : F6 f := ⟨lt_of_limbs_length h1, lt_of_limbs_length h2, h.pos, h.neg⟩
theorem mk_le (N : Int) (P : Nat) (hP : 0 < P) : (ofQ (mkRat N P)).num ≤ N.natAbs ∧ (ofQ (mkRat N P)).den ≤ P := by
  have h := redF_q (decide (N < 0)) N.natAbs P hP
  rw [sg_natAbs] at h
  rw [← h]
  exact ⟨Nat.div_le_self _ _, Nat.div_le_self _ _⟩
theorem prod_mk (c : Int) (f : Fr) (h : 0 < f.den) : (c : Rat) * qv f = mkRat (c * sg f.neg f.num) f.den := by
  have e : (c : Rat) = mkRat c 1 := (Rat.mkRat_one c).symm
  unfold qv
  rw [e, Rat.mkRat_mul_mkRat, Nat.one_mul]
theorem sg_abs (n : Bool) (a : Nat) : (sg n a).natAbs = a := natAbs_sg n a
theorem psum_mk (c : List Int) (xs : List Fr) (hc : ∀ i, (c.getD i 0).natAbs ≤ 9223372036854775808) : ∀ k, (∀ j, j < k → F6 (xs.getD j fr0)) → ∃ (N : Int) (P : Nat), 0 < P ∧ psum c xs k = mkRat N P ∧ P ≤ 1073741824 ^ (6 * k) ∧ N.natAbs ≤ k * (9223372036854775808 * 1073741824 ^ (6 * k))
  | 0, _ => ⟨0, 1, by decide, by simp [psum], by decide, by decide⟩
  | k + 1, hx => by
    obtain ⟨N, P, hP, he, hPb, hNb⟩ := psum_mk c xs hc k (fun j hj => hx j (by omega))
    have hf := hx k (by omega)
    generalize hff : xs.getD k fr0 = f at hf
    have hck := hc k
    have hpr := prod_mk (c.getD k 0) f hf.pos
    have hsg := sg_abs f.neg f.num
    have hn := hf.num
    have hd := hf.den
    have hd0 := hf.pos
    refine ⟨N * f.den + c.getD k 0 * sg f.neg f.num * P, P * f.den, Nat.mul_pos hP hf.pos, ?_, ?_, ?_⟩
    · simp only [psum]
      rw [he, hff, hpr, Rat.mkRat_add_mkRat _ _ (by omega) (by omega)]
    · rw [show 6 * (k + 1) = 6 * k + 6 by omega, Nat.pow_add]
      exact Nat.mul_le_mul hPb (by omega)
    · have e : 1073741824 ^ (6 * (k + 1)) = 1073741824 ^ (6 * k) * 1073741824 ^ 6 := by rw [show 6 * (k + 1) = 6 * k + 6 by omega, Nat.pow_add]
      rw [e]
      generalize 1073741824 ^ (6 * k) = Q at *
      have h1 : (N * f.den).natAbs ≤ k * (9223372036854775808 * Q) * 1073741824 ^ 6 := by
        rw [Int.natAbs_mul]; exact Nat.mul_le_mul hNb (by omega)
      have h2 : (c.getD k 0 * sg f.neg f.num * P).natAbs ≤ 9223372036854775808 * 1073741824 ^ 6 * Q := by
        rw [Int.natAbs_mul, Int.natAbs_mul, hsg]
        exact Nat.mul_le_mul (Nat.mul_le_mul hck (by omega)) hPb
      have h3 : (N * f.den + c.getD k 0 * sg f.neg f.num * P).natAbs ≤ (N * f.den).natAbs + (c.getD k 0 * sg f.neg f.num * P).natAbs := Int.natAbs_add_le _ _
      have e2 : (k + 1) * (9223372036854775808 * (Q * 1073741824 ^ 6)) = k * (9223372036854775808 * Q) * 1073741824 ^ 6 + 9223372036854775808 * 1073741824 ^ 6 * Q := by
        generalize (1073741824 : Nat) ^ 6 = R
        grind
      omega
theorem psum_sz (c : List Int) (xs : List Fr) (hc : ∀ i, (c.getD i 0).natAbs ≤ 9223372036854775808) {k : Nat} (hk : k ≤ 6) (hx : ∀ j, j < k → F6 (xs.getD j fr0)) :
    (limbs (ofQ (psum c xs k)).num).length ≤ 40 ∧ (limbs (ofQ (psum c xs k)).den).length ≤ 37 ∧ (k ≤ 5 → (limbs (ofQ (psum c xs k)).num).length ≤ 34 ∧ (limbs (ofQ (psum c xs k)).den).length ≤ 31) := by
  obtain ⟨N, P, hP, he, hPb, hNb⟩ := psum_mk c xs hc k hx
  have hm := mk_le N P hP
  rw [← he] at hm
  have p6 : ∀ a, k ≤ a → 1073741824 ^ (6 * k) ≤ 1073741824 ^ (6 * a) := fun a ha => Nat.pow_le_pow_right (by decide) (by omega)
  have nb : ∀ a, k ≤ a → N.natAbs ≤ a * (9223372036854775808 * 1073741824 ^ (6 * a)) := fun a ha => Nat.le_trans hNb (Nat.mul_le_mul ha (Nat.mul_le_mul_left _ (p6 a ha)))
  refine ⟨limbs_length_le (Nat.lt_of_le_of_lt (Nat.le_trans hm.1 (nb 6 hk)) (by decide)), limbs_length_le (Nat.lt_of_le_of_lt (Nat.le_trans hm.2 (Nat.le_trans hPb (p6 6 hk))) (by decide)), fun h5 => ⟨limbs_length_le (Nat.lt_of_le_of_lt (Nat.le_trans hm.1 (nb 5 h5)) (by decide)), limbs_length_le (Nat.lt_of_le_of_lt (Nat.le_trans hm.2 (Nat.le_trans hPb (p6 5 h5))) (by decide))⟩⟩
theorem vfit6 (c : List Int) (xs : List Fr) (hcl : c.length ≤ 1000) (hc : ∀ i, -9223372036854775808 ≤ c.getD i 0 ∧ c.getD i 0 ≤ 9223372036854775807) (hxl : xs.length ≤ 6) (hx : ∀ f ∈ xs, F6 f) : VFit c xs ∧ (limbs (ofQ (vsum c xs)).num).length ≤ 40 ∧ (limbs (ofQ (vsum c xs)).den).length ≤ 37 := by
  have hc' : ∀ i, (c.getD i 0).natAbs ≤ 9223372036854775808 := fun i => by have := hc i; omega
  have hx' : ∀ k, k < min c.length xs.length → F6 (xs.getD k fr0) := fun k hk => hx _ (getD_mem (by omega))
  have hp : ∀ k, k < min c.length xs.length → (limbs (ofQ ((c.getD k 0 : Rat) * qv (xs.getD k fr0))).num).length ≤ 9 ∧ (limbs (ofQ ((c.getD k 0 : Rat) * qv (xs.getD k fr0))).den).length ≤ 6 := fun k hk => by
    have hf := hx' k hk
    have hm := mk_le (c.getD k 0 * sg (xs.getD k fr0).neg (xs.getD k fr0).num) (xs.getD k fr0).den hf.pos
    rw [← prod_mk _ _ hf.pos] at hm
    have h1 : (c.getD k 0 * sg (xs.getD k fr0).neg (xs.getD k fr0).num).natAbs ≤ 9223372036854775808 * 1073741824 ^ 6 := by
      rw [Int.natAbs_mul, sg_abs]; exact Nat.mul_le_mul (hc' k) (Nat.le_of_lt hf.num)
    exact ⟨limbs_length_le (Nat.lt_of_le_of_lt (Nat.le_trans hm.1 h1) (by decide)), limbs_length_le (Nat.lt_of_le_of_lt hm.2 hf.den)⟩
  have hs : ∀ k, k < min c.length xs.length → (limbs (ofQ (psum c xs k)).num).length ≤ 34 ∧ (limbs (ofQ (psum c xs k)).den).length ≤ 31 := fun k hk => (psum_sz c xs hc' (by omega) (fun j hj => hx' j (by omega))).2.2 (by omega)
  have hv := psum_sz c xs hc' (k := min c.length xs.length) (by omega) hx'
  refine ⟨⟨hcl, by omega, hc, fun k hk => (hx' k hk).pos, fun k hk => ?_, fun k hk => ?_, fun k hk => ?_, fun k hk => ?_, fun k hk => ?_⟩, hv.1, hv.2.1⟩
  · have h1 : (limbs (ofQ (c.getD k 0 : Rat)).num).length ≤ 3 := limbs_length_le (Nat.lt_of_le_of_lt (show (ofQ (c.getD k 0 : Rat)).num ≤ 9223372036854775808 from hc' k) (by decide))
    have h2 := limbs_length_le (hx' k hk).num
    omega
  · have h2 := limbs_length_le (hx' k hk).den
    omega
  · have h1 := hp k hk; have h2 := hs k hk; omega
  · have h1 := hp k hk; have h2 := hs k hk; omega
  · have h1 := hp k hk; have h2 := hs k hk; omega
theorem sfit6 (n : Int) (rs : List Rw) (xs : List Fr) (hv : validR n rs = true) (hxl : xs.length ≤ 6) (hx : ∀ f ∈ xs, F6 f) : SFit rs xs := by
  obtain ⟨v1, v2, v3, v4⟩ := validR_spec hv
  have key : ∀ r ∈ rs, VFit r.cs xs ∧ (limbs (ofQ (vsum r.cs xs)).num).length ≤ 40 ∧ (limbs (ofQ (vsum r.cs xs)).den).length ≤ 37 := fun r hr => by
    obtain ⟨h1, h2, h3⟩ := v4 r hr
    refine vfit6 r.cs xs (by omega) (fun i => ?_) hxl hx
    rcases Nat.lt_or_ge i r.cs.length with h4 | h4
    · have := h2 _ (getD_mem (z := 0) h4); omega
    · rw [getD_ge h4]; decide
  exact ⟨fun r hr => (key r hr).1, fun r hr => by have := (key r hr).2.1; omega, fun r hr => by have := (key r hr).2.2; omega⟩
theorem sol_opt {n : Nat} {rs : List Rw} {c : List Int} {O : Oc} (h : Sol n rs c O) {D1 D2 : Int} {X Y : Nat → Int} (hX : Feas n rs D1 X) (hY : Dual n rs c D2 Y) {v : Int} (e1 : sm (fun j => c.getD j 0 * X j) n = D1 * v) (e2 : sm (fun i => cb rs i * Y i) rs.length = D2 * v) : O.kind = 1 ∧ O.value = ofQ (v : Rat) := by
  cases h with
  | opt D X' Y' val hX' hv hY' hw b1 b2 b3 b4 =>
    refine ⟨rfl, ?_⟩
    have w1 := weak hX' hY
    have w2 := weak hX hY'
    rw [hv, e2] at w1
    rw [e1, hw] at w2
    have hD := hX'.den
    have d1 := hX.den
    have d2 := hY.den
    have h1 : val ≤ D * v := by
      have : D2 * val ≤ D2 * (D * v) := by rw [show D2 * (D * v) = D * (D2 * v) by grind]; exact w1
      exact Int.le_of_mul_le_mul_left this d2
    have h2 : D * v ≤ val := by
      have : D1 * (D * v) ≤ D1 * val := by rw [show D1 * (D * v) = D * (D1 * v) by grind]; exact w2
      exact Int.le_of_mul_le_mul_left this d1
    have h3 : val = D * v := by omega
    show ofQ (shq val D) = _
    rw [h3]
    unfold shq
    congr 1
    obtain ⟨d, rfl⟩ : ∃ d : Nat, D = d := ⟨D.toNat, by omega⟩
    rw [Int.natAbs_natCast, ← Rat.divInt_ofNat, show ((d : Int) * v) = (d : Int) * v from rfl]
    have := Rat.divInt_mul_left (n := v) (d := 1) (a := (d : Int)) (by omega)
    rw [Int.mul_one] at this
    rw [this, divInt_one]
  | unb D X' Z hX' hZ => exact (no_ray hZ hY).elim
  | emp D Y' hY' => exact (no_refu hX hY').elim
theorem sol_emp {n : Nat} {rs : List Rw} {c : List Int} {O : Oc} (h : Sol n rs c O) {D : Int} {Y : Nat → Int} (hY : Refu n rs D Y) : O.kind = 3 := by
  cases h with
  | opt D X' Y' val hX' => exact (no_refu hX' hY).elim
  | unb D X' Z hX' hZ => exact (no_refu hX' hY).elim
  | emp D Y' hY' => rfl
theorem lp_of {n : Int} {rs : List Rw} {c : List Int} (hv : validR n rs = true) (hc : okCoeffs n c = true) : ∃ N : Nat, n = N ∧ LpOk N rs c := by
  obtain ⟨v1, v2, v3, v4⟩ := validR_spec hv
  obtain ⟨N, rfl⟩ : ∃ N : Nat, n = N := ⟨n.toNat, by omega⟩
  have bdd : ∀ xs : List Int, (∀ y ∈ xs, y.natAbs ≤ 1048576) → ∀ i, (xs.getD i 0).natAbs ≤ 1048576 := fun xs hx i => by
    rcases Nat.lt_or_ge i xs.length with h | h
    · exact hx _ (getD_mem h)
    · rw [getD_ge h]; decide
  unfold okCoeffs at hc
  rw [Bool.and_eq_true] at hc
  have h1 := of_decide_eq_true hc.1
  have h2 : ∀ y ∈ c, y.natAbs ≤ 1048576 := fun y hy => by
    have h3 : c.any badC = false := by simpa using hc.2
    have h4 := List.any_eq_false.1 h3 y hy
    unfold badC at h4
    simp only [Bool.or_eq_true, decide_eq_true_eq, not_or] at h4
    omega
  exact ⟨N, rfl, ⟨by omega, v3, by omega, bdd c h2, fun r hr => by have := (v4 r hr).1; omega, fun r hr => bdd _ (v4 r hr).2.1, fun r hr => (v4 r hr).2.2⟩⟩
end Go.Proofs.YtdhmbgogmoaofaaGreat
namespace Go.Proofs.YtdhmbgogmoaofaaGreat
open Go.Own Go.Limbs
attribute [local irreducible] St Ops Go.Own.Fin Ok
end Go.Proofs.YtdhmbgogmoaofaaGreat
namespace Go.Proofs.YtdhmbgogmoaofaaGreat
open Go.Own Go.Limbs
attribute [local irreducible] St Ops Go.Own.Fin Ok
def frs (ms : List Int) : List CT := (ms.map fun m => frCs (tf m)).flatten
theorem frs_len (ms : List Int) : (frs ms).length = ms.length * 3 := by
  unfold frs
  rw [flatten_length (k := 3) (fun e he => by obtain ⟨m, _, rfl⟩ := List.mem_map.mp he; rfl)]; simp
theorem frs_snoc (ms : List Int) (m : Int) : frs (ms ++ [m]) = frs ms ++ frCs (tf m) := by simp [frs]
theorem frs_frozen (e : Nat) (ms : List Int) : (Ent.row e 3 (frs ms)).frozen (sliceT 3 (ms.map fun m => frCs (tf m))) :=
  ⟨_, rfl, fun e he => by obtain ⟨m, _, rfl⟩ := List.mem_map.mp he; rfl, by decide, rfl⟩
def col (rs : List Rw) (ys : List Int) (j : Nat) : Int := dot (rs.map fun r => r.cs.getD j 0) ys
def cols (rs : List Rw) (ys : List Int) (n : Nat) : List Int := (List.range n).map (col rs ys)
def bsum (rs : List Rw) (ys : List Int) : Int := dot (rs.map fun r => r.b) ys
def covB (os c : List Int) : Bool := decide (c.length ≤ os.length) && (List.range os.length).all fun j => decide (12 * c.getD j 0 ≤ os.getD j 0)
end Go.Proofs.YtdhmbgogmoaofaaGreat
namespace Go.Proofs.YtdhmbgogmoaofaaGreat
open Go.Own Go.Limbs
attribute [local irreducible] St Ops Go.Own.Fin Ok
def pruned (ys : List Int) : Nat → List Int
  | 0 => []
  | i + 1 => if ys.getD i 0 = 0 then pruned ys i else pruned ys i ++ [(i : Int)]
end Go.Proofs.YtdhmbgogmoaofaaGreat
namespace Go.Proofs.YtdhmbgogmoaofaaGreat
open Go.Own Go.Limbs
attribute [local irreducible] St Ops Go.Own.Fin Ok
end Go.Proofs.YtdhmbgogmoaofaaGreat
namespace Go.Proofs.YtdhmbgogmoaofaaGreat
open Go.Own Go.Limbs
attribute [local irreducible] St Ops Go.Own.Fin Ok OkB OkN wpA
theorem goEqual : InGo Tryz.prog 19 := InGo.of Tryz.func19 rfl (by decide)
set_option maxHeartbeats 4000000 in
theorem Equal_refl (f : Fr) (hn : (limbs f.num).length ≤ 1000) (hd : (limbs f.den).length ≤ 1000) : Ok Tryz.prog 19 [fracC f, fracC f] (boolC true) := by
  refine Ok.enter Tryz.func19 rfl _ Tryz.ntmps19 rfl ?_
  intro S w
  (refine St.seq ?_; refine St.regionK (fun K hK => ?_); refine Ops.boxN 0 rfl rfl rfl rfl rfl rfl rfl ?_; refine Ops.boxN 1 rfl rfl rfl rfl rfl rfl rfl ?_; refine Ops.assign rfl rfl rfl ?_; refine Ops.nil (hK _ _ ?_); clear hK K; refine Fin.then ?_; refine St.seq ?_; refine St.seq ?_; refine St.regionK (fun K hK => ?_); refine Ops.fldO rfl rfl rfl (by with_reducible first | exact fF0 | exact fF1 | exact fF2 | exact fR0 | exact fR1) rfl ?_; refine Ops.ld1A rfl rfl rfl rfl rfl (by with_reducible first | exact lInt | exact lNat | exact lBool | exact lInts) rfl ?_; refine Ops.fldO rfl rfl rfl (by with_reducible first | exact fF0 | exact fF1 | exact fF2 | exact fR0 | exact fR1) rfl ?_; refine Ops.ld1A rfl rfl rfl rfl rfl (by with_reducible first | exact lInt | exact lNat | exact lBool | exact lInts) rfl ?_)
  refine Ops.bne rfl rfl rfl (by with_reducible exact uBool) rfl ?_
  (refine Ops.move rfl rfl rfl ?_)
  refine Ops.splitP 12 rfl (fun h => absurd rfl h) (fun _ => ?_)
  (refine Ops.fldO rfl rfl rfl (by with_reducible first | exact fF0 | exact fF1 | exact fF2 | exact fR0 | exact fR1) rfl ?_; refine Ops.ld1A rfl rfl rfl rfl rfl (by with_reducible first | exact lInt | exact lNat | exact lBool | exact lInts) rfl ?_; refine Ops.lenF rfl rfl (by with_reducible first | exact sNat.und | exact sInts.und) (List.length_map ..) rfl ?_; refine Ops.fldO rfl rfl rfl (by with_reducible first | exact fF0 | exact fF1 | exact fF2 | exact fR0 | exact fR1) rfl ?_; refine Ops.ld1A rfl rfl rfl rfl rfl (by with_reducible first | exact lInt | exact lNat | exact lBool | exact lInts) rfl ?_; refine Ops.lenF rfl rfl (by with_reducible first | exact sNat.und | exact sInts.und) (List.length_map ..) rfl ?_; refine Ops.ibin ineq rfl rfl rfl rfl ?_; refine Ops.pickF rfl rfl rfl rfl ?_; refine Ops.move rfl rfl rfl ?_)
  refine Ops.splitP 21 rfl (fun h => absurd rfl h) (fun _ => ?_)
  (refine Ops.fldO rfl rfl rfl (by with_reducible first | exact fF0 | exact fF1 | exact fF2 | exact fR0 | exact fR1) rfl ?_; refine Ops.ld1A rfl rfl rfl rfl rfl (by with_reducible first | exact lInt | exact lNat | exact lBool | exact lInts) rfl ?_; refine Ops.lenF rfl rfl (by with_reducible first | exact sNat.und | exact sInts.und) (List.length_map ..) rfl ?_; refine Ops.fldO rfl rfl rfl (by with_reducible first | exact fF0 | exact fF1 | exact fF2 | exact fR0 | exact fR1) rfl ?_; refine Ops.ld1A rfl rfl rfl rfl rfl (by with_reducible first | exact lInt | exact lNat | exact lBool | exact lInts) rfl ?_; refine Ops.lenF rfl rfl (by with_reducible first | exact sNat.und | exact sInts.und) (List.length_map ..) rfl ?_; refine Ops.ibin ineq rfl rfl rfl rfl ?_; refine Ops.pickF rfl rfl rfl rfl ?_; refine Ops.nil (hK _ _ ?_); clear hK K; refine Fin.then ?_)
  refine St.condP rfl (fun h => absurd rfl h) (fun _ => ?_)
  (refine St.skip ?_; refine Fin.then ?_; refine St.seq ?_; refine St.seq ?_; refine St.regionK (fun K hK => ?_); refine Ops.assign rfl rfl rfl ?_; refine Ops.nil (hK _ _ ?_); clear hK K; refine Fin.then ?_; refine St.block ?_)
  refine St.loop (α := Nat) (fun k => k ≤ (limbs f.num).length)
    (fun k => [(2, .own 0), (3, .own 1), (5, .ct (intC k))]) (fun _ => [(1, .box 38 (frCs f)), (0, .box 38 (frCs f))]) (fun k => (limbs f.num).length - k) 0 (Nat.zero_le _) (by exact Entails.of rfl ⟨rfl, rfl, rfl, trivial⟩) ?_
  intro k hk
  dsimp only at hk ⊢
  (refine St.seq ?_; refine St.seq ?_; refine St.regionK (fun K hK => ?_); refine Ops.move rfl rfl rfl ?_; refine Ops.fldO rfl rfl rfl (by with_reducible first | exact fF0 | exact fF1 | exact fF2 | exact fR0 | exact fR1) rfl ?_; refine Ops.ld1A rfl rfl rfl rfl rfl (by with_reducible first | exact lInt | exact lNat | exact lBool | exact lInts) rfl ?_; refine Ops.lenF rfl rfl (by with_reducible first | exact sNat.und | exact sInts.und) (List.length_map ..) rfl ?_; refine Ops.ibin ilss rfl rfl rfl rfl ?_; refine Ops.nil (hK _ _ ?_); clear hK K; refine Fin.then ?_)
  refine St.condP rfl (fun h => ?_) (fun h => ?_)
  · (refine St.skip ?_; refine Fin.then ?_; refine St.seq ?_; refine St.block ?_; refine St.seq ?_)
    refine St.drawK (by with_reducible exact mixed) 11 (.p 0 (.p 2 (.p 5 (.p 7 (.f 1 (.p 3 (.f 4 (.f 6 (.p 8 (.f 9 (.p 10 .done))))))))))) (by kernel_rfl) (fun K hK => ?_)
    (refine Ops.fldO rfl rfl rfl (by with_reducible first | exact fF0 | exact fF1 | exact fF2 | exact fR0 | exact fR1) rfl ?_; refine Ops.move rfl rfl rfl ?_; refine Ops.fldO rfl rfl rfl (by with_reducible first | exact fF0 | exact fF1 | exact fF2 | exact fR0 | exact fR1) rfl ?_; refine Ops.move rfl rfl rfl ?_; refine Ops.ld1A rfl rfl rfl rfl rfl (by with_reducible first | exact lInt | exact lNat | exact lBool | exact lInts) rfl ?_; refine Ops.idxF rfl rfl rfl (by with_reducible first | exact sNat | exact sInts) (by omega) (ints_at (by omega) (by omega)) rfl ?_; refine Ops.ld1F rfl rfl rfl (by with_reducible first | exact lInt | exact lNat | exact lBool | exact lInts) rfl ?_; refine Ops.ld1A rfl rfl rfl rfl rfl (by with_reducible first | exact lInt | exact lNat | exact lBool | exact lInts) rfl ?_; refine Ops.idxF rfl rfl rfl (by with_reducible first | exact sNat | exact sInts) (by omega) (ints_at (by omega) (by omega)) rfl ?_; refine Ops.ld1F rfl rfl rfl (by with_reducible first | exact lInt | exact lNat | exact lBool | exact lInts) rfl ?_; refine Ops.ibin ineq rfl rfl rfl rfl ?_; refine Ops.nil (hK _ _ ?_); clear hK K; refine Fin.then ?_)
    refine St.condP rfl (fun h => absurd rfl h) (fun _ => ?_)
    (refine St.skip ?_; refine Fin.then ?_; refine St.regionK (fun K hK => ?_); refine Ops.move rfl rfl rfl ?_; refine Ops.ibin (iadd (by omega) (by omega)) rfl rfl rfl rfl ?_; refine Ops.assign rfl rfl rfl ?_; refine Ops.nil (hK _ _ ?_); clear hK K; refine Fin.thenN ?_)
    refine Fin.next (k + 1) (by omega) (by omega) (by exact Entails.of rfl ⟨rfl, rfl, by simp only [Int.natCast_add]; rfl, trivial⟩)
  · (refine St.exit ?_; refine Fin.then ?_; refine St.seq ?_; refine St.seq ?_; refine St.regionK (fun K hK => ?_); refine Ops.assign rfl rfl rfl ?_; refine Ops.nil (hK _ _ ?_); clear hK K; refine Fin.then ?_; refine St.block ?_)
    refine St.loop (α := Nat) (fun k => k ≤ (limbs f.den).length)
      (fun k => [(2, .own 0), (3, .own 1), (6, .ct (intC k))]) (fun _ => [(1, .box 38 (frCs f)), (0, .box 38 (frCs f))]) (fun k => (limbs f.den).length - k) 0 (Nat.zero_le _) (by exact Entails.of rfl ⟨rfl, rfl, rfl, trivial⟩) ?_
    intro k hk
    dsimp only at hk ⊢
    (refine St.seq ?_; refine St.seq ?_; refine St.regionK (fun K hK => ?_); refine Ops.move rfl rfl rfl ?_; refine Ops.fldO rfl rfl rfl (by with_reducible first | exact fF0 | exact fF1 | exact fF2 | exact fR0 | exact fR1) rfl ?_; refine Ops.ld1A rfl rfl rfl rfl rfl (by with_reducible first | exact lInt | exact lNat | exact lBool | exact lInts) rfl ?_; refine Ops.lenF rfl rfl (by with_reducible first | exact sNat.und | exact sInts.und) (List.length_map ..) rfl ?_; refine Ops.ibin ilss rfl rfl rfl rfl ?_; refine Ops.nil (hK _ _ ?_); clear hK K; refine Fin.then ?_)
    refine St.condP rfl (fun h => ?_) (fun h => ?_)
    · (refine St.skip ?_; refine Fin.then ?_; refine St.seq ?_; refine St.block ?_; refine St.seq ?_)
      refine St.drawK (by with_reducible exact mixed) 11 (.p 0 (.p 2 (.p 5 (.p 7 (.f 1 (.p 3 (.f 4 (.f 6 (.p 8 (.f 9 (.p 10 .done))))))))))) (by kernel_rfl) (fun K hK => ?_)
      (refine Ops.fldO rfl rfl rfl (by with_reducible first | exact fF0 | exact fF1 | exact fF2 | exact fR0 | exact fR1) rfl ?_; refine Ops.move rfl rfl rfl ?_; refine Ops.fldO rfl rfl rfl (by with_reducible first | exact fF0 | exact fF1 | exact fF2 | exact fR0 | exact fR1) rfl ?_; refine Ops.move rfl rfl rfl ?_; refine Ops.ld1A rfl rfl rfl rfl rfl (by with_reducible first | exact lInt | exact lNat | exact lBool | exact lInts) rfl ?_; refine Ops.idxF rfl rfl rfl (by with_reducible first | exact sNat | exact sInts) (by omega) (ints_at (by omega) (by omega)) rfl ?_; refine Ops.ld1F rfl rfl rfl (by with_reducible first | exact lInt | exact lNat | exact lBool | exact lInts) rfl ?_; refine Ops.ld1A rfl rfl rfl rfl rfl (by with_reducible first | exact lInt | exact lNat | exact lBool | exact lInts) rfl ?_; refine Ops.idxF rfl rfl rfl (by with_reducible first | exact sNat | exact sInts) (by omega) (ints_at (by omega) (by omega)) rfl ?_; refine Ops.ld1F rfl rfl rfl (by with_reducible first | exact lInt | exact lNat | exact lBool | exact lInts) rfl ?_; refine Ops.ibin ineq rfl rfl rfl rfl ?_; refine Ops.nil (hK _ _ ?_); clear hK K; refine Fin.then ?_)
      refine St.condP rfl (fun h => absurd rfl h) (fun _ => ?_)
      (refine St.skip ?_; refine Fin.then ?_; refine St.regionK (fun K hK => ?_); refine Ops.move rfl rfl rfl ?_; refine Ops.ibin (iadd (by omega) (by omega)) rfl rfl rfl rfl ?_; refine Ops.assign rfl rfl rfl ?_; refine Ops.nil (hK _ _ ?_); clear hK K; refine Fin.thenN ?_)
      refine Fin.next (k + 1) (by omega) (by omega) (by exact Entails.of rfl ⟨rfl, rfl, by simp only [Int.natCast_add]; rfl, trivial⟩)
    · (refine St.exit ?_; refine Fin.then ?_; refine St.seq ?_; refine St.regionK (fun K hK => ?_); refine Ops.assign rfl rfl rfl ?_; refine Ops.nil (hK _ _ ?_); clear hK K; refine Fin.then ?_; refine St.ret ?_)
      refine Fin.ret [_] rfl (AllRes.tmp rfl AllRes.nil) rfl rfl
end Go.Proofs.YtdhmbgogmoaofaaGreat
namespace Go.Proofs.YtdhmbgogmoaofaaGreat
open Go.Own
attribute [local irreducible] St Ops Go.Own.Fin Ok OkB OkN
theorem sBytes : SlcT Tryz.prog 22 5 1 1 (.int .u8 0) := SlcT.of Tryz.underlying22 (by kernel_rfl) rfl (by decide)
theorem lBytes : Ld1 Tryz.prog 22 := Ld1.of _ Tryz.underlying22 rfl
theorem lU8 : Ld1 Tryz.prog 5 := Ld1.of _ Tryz.underlying5 rfl
theorem uU8 : Tryz.prog.underlying 5 = some (.int .u8) := Tryz.underlying5
theorem uInt : Tryz.prog.underlying 3 = some (.int .i64) := Tryz.underlying3
theorem fC0 : fldInfo Tryz.prog 82 0 = some (0, some 1) := by kernel_rfl
theorem fC1 : fldInfo Tryz.prog 82 1 = some (1, some 1) := by kernel_rfl
theorem bCodes : bInfo Tryz.prog 82 = some (.agg #[.slice none 0 0, .int .i64 0], [(0, some 1), (1, some 1)]) := by kernel_rfl
abbrev bytesC (bs : List Int) : CT := .fr (sliceT 1 (bs.map fun b => [CT.ex (.int .u8 b)]))
abbrev codes (bs : List Int) (p : Nat) : List CT := [bytesC bs, intC p]
structure Bytes (bs : List Int) : Prop where
  lo : ∀ b ∈ bs, 0 ≤ b
  hi : ∀ b ∈ bs, b < 256
  len : bs.length ≤ 400
theorem bytes_at {bs : List Int} {j : Int} (h0 : 0 ≤ j) (h : j < (bs.length : Int)) : (bs.map fun b => [CT.ex (.int .u8 b)])[j.toNat]? = some [CT.ex (.int .u8 (bs.getD j.toNat 0))] := by
  have hl : j.toNat < bs.length := by omega
  rw [List.getElem?_map, List.getElem?_eq_getElem hl, List.getD_eq_getElem?_getD, List.getElem?_eq_getElem hl]; rfl
theorem Bytes.at {bs : List Int} (h : Bytes bs) (j : Nat) : 0 ≤ bs.getD j 0 ∧ bs.getD j 0 < 256 := by
  rw [List.getD_eq_getElem?_getD]
  cases e : bs[j]? with
  | none => simp
  | some b =>
    have := List.mem_of_getElem? e
    exact ⟨h.lo b this, h.hi b this⟩
theorem goNext : InGo Tryz.prog 16 := InGo.of Tryz.func16 rfl (by decide)
set_option maxHeartbeats 2000000 in
theorem Next_ok (bs : List Int) (p : Nat) (n : Int) (h1 : 1 ≤ n) (h2 : n ≤ 256) (hb : Bytes bs) :
    OkB Tryz.prog 16 82 (codes bs p) [intC n] (fun q : Int × Nat => 0 ≤ q.1 ∧ q.1 < n) (fun q => intC q.1) (fun q => codes bs q.2) := by
  have hlen := hb.len
  refine OkB.enter Tryz.func16 rfl _ Tryz.ntmps16 rfl ?_
  intro S w g
  (refine St.seq ?_; refine St.regionK (fun K hK => ?_); refine Ops.assign rfl rfl rfl ?_; refine Ops.nil (hK _ _ ?_); clear hK K; refine Fin.then ?_; refine St.seq ?_; refine St.seq ?_)
  refine St.drawK (by with_reducible exact mixed) 14 (.p 0 (.p 1 (.p 2 (.p 4 (.p 5 (.p 6 (.f 3 (.f 7 (.p 8 (.p 9 (.p 10 (.p 11 (.p 12 (.p 13 .done)))))))))))))) (by kernel_rfl) (fun K hK => ?_)
  (refine Ops.move rfl rfl rfl ?_; refine Ops.nilCheckO rfl rfl rfl rfl ?_; refine Ops.fldO rfl rfl rfl (by with_reducible first | exact fC0 | exact fC1 | exact fR0 | exact fR1) rfl ?_; refine Ops.move rfl rfl rfl ?_; refine Ops.nilCheckO rfl rfl rfl rfl ?_; refine Ops.fldO rfl rfl rfl (by with_reducible first | exact fC0 | exact fC1 | exact fR0 | exact fR1) rfl ?_; refine Ops.ld1A rfl rfl rfl rfl rfl (by with_reducible first | exact lBytes | exact lInt | exact lInts) rfl ?_; refine Ops.ld1A rfl rfl rfl rfl rfl (by with_reducible first | exact lBytes | exact lInt | exact lInts) rfl ?_; refine Ops.lenF rfl rfl (by with_reducible exact sBytes.und) (List.length_map ..) rfl ?_; refine Ops.ibin igeq rfl rfl rfl rfl ?_; refine Ops.move rfl rfl rfl ?_)
  refine Ops.splitP 16 rfl (fun h => ?_) (fun h => ?_)
  · (refine Ops.skip rfl rfl rfl ?_; refine Ops.skip rfl rfl rfl ?_; refine Ops.pickT rfl rfl rfl rfl ?_; refine Ops.nil (hK _ _ ?_); clear hK K; refine Fin.then ?_; refine St.condT rfl ?_; refine St.seq ?_; refine St.regionK (fun K hK => ?_); refine Ops.assign rfl rfl rfl ?_; refine Ops.nil (hK _ _ ?_); clear hK K; refine Fin.then ?_; refine St.ret ?_; refine Fin.thenRet ?_)
    refine Fin.retB (0, p) [_] rfl (AllRes.tmp rfl AllRes.nil) rfl rfl ⟨by show (0 : Int) ≤ 0; omega, by show (0 : Int) < n; omega⟩
  · (refine Ops.move rfl rfl rfl ?_; refine Ops.ibin ilss rfl rfl rfl rfl ?_; refine Ops.pickF rfl rfl rfl rfl ?_; refine Ops.nil (hK _ _ ?_); clear hK K; refine Fin.then ?_)
    refine St.condP rfl (fun h' => ?_) (fun h' => ?_)
    · exact absurd h' (by omega)
    · (refine St.skip ?_; refine Fin.then ?_; refine St.seq ?_)
      refine St.drawK (by with_reducible exact mixed) 12 (.p 0 (.p 1 (.p 2 (.p 4 (.p 5 (.p 6 (.f 3 (.f 7 (.p 8 (.f 9 (.p 10 (.p 11 .done)))))))))))) (by kernel_rfl) (fun K hK => ?_)
      (refine Ops.move rfl rfl rfl ?_; refine Ops.nilCheckO rfl rfl rfl rfl ?_; refine Ops.fldO rfl rfl rfl (by with_reducible first | exact fC0 | exact fC1 | exact fR0 | exact fR1) rfl ?_; refine Ops.move rfl rfl rfl ?_; refine Ops.nilCheckO rfl rfl rfl rfl ?_; refine Ops.fldO rfl rfl rfl (by with_reducible first | exact fC0 | exact fC1 | exact fR0 | exact fR1) rfl ?_; refine Ops.ld1A rfl rfl rfl rfl rfl (by with_reducible first | exact lBytes | exact lInt | exact lInts) rfl ?_; refine Ops.ld1A rfl rfl rfl rfl rfl (by with_reducible first | exact lBytes | exact lInt | exact lInts) rfl ?_; refine Ops.idxF rfl rfl rfl (by with_reducible exact sBytes) (by omega) (bytes_at (by omega) (by omega)) rfl ?_; refine Ops.ld1F rfl rfl rfl (by with_reducible exact lU8) rfl ?_)
      have hx := hb.at p
      generalize he : bs.getD p 0 = x at hx
      refine Ops.conv (q := x) rfl rfl (by with_reducible exact uU8) (by with_reducible exact uInt) (by rw [Int.toNat_natCast, he]; exact wrap_id (by omega) (by omega)) rfl ?_
      (refine Ops.assign rfl rfl rfl ?_; refine Ops.nil (hK _ _ ?_); clear hK K; refine Fin.then ?_; refine St.seq ?_; refine St.regionK (fun K hK => ?_); refine Ops.move rfl rfl rfl ?_; refine Ops.nilCheckO rfl rfl rfl rfl ?_; refine Ops.fldO rfl rfl rfl (by with_reducible first | exact fC0 | exact fC1 | exact fR0 | exact fR1) rfl ?_; refine Ops.ld1A rfl rfl rfl rfl rfl (by with_reducible first | exact lBytes | exact lInt | exact lInts) rfl ?_; refine Ops.ibin (iadd (by omega) (by omega)) rfl rfl rfl rfl ?_; refine Ops.nilCheckO rfl rfl rfl rfl ?_; refine Ops.fldO rfl rfl rfl (by with_reducible first | exact fC0 | exact fC1 | exact fR0 | exact fR1) rfl ?_; refine Ops.st1A rfl rfl rfl rfl rfl (by with_reducible exact zInt) (by simp [Ent.cs]) ?_; refine Ops.nil (hK _ _ ?_); clear hK K; refine Fin.then ?_; refine St.seq ?_; refine St.seq ?_; refine St.regionK (fun K hK => ?_); refine Ops.move rfl rfl rfl ?_; refine Ops.ibin igtr rfl rfl rfl rfl ?_; refine Ops.nil (hK _ _ ?_); clear hK K; refine Fin.then ?_)
      refine St.condP rfl (fun h' => ?_) (fun h' => ?_)
      · exact absurd h' (by omega)
      · (refine St.skip ?_; refine Fin.then ?_; refine St.seq ?_; refine St.regionK (fun K hK => ?_); refine Ops.move rfl rfl rfl ?_; refine Ops.move rfl rfl rfl ?_; refine Ops.ibin (irem (by omega) (by omega)) rfl rfl rfl rfl ?_; refine Ops.assign rfl rfl rfl ?_; refine Ops.nil (hK _ _ ?_); clear hK K; refine Fin.then ?_; refine St.ret ?_)
        refine Fin.retB (x % n, p + 1) [_] rfl (AllRes.tmp rfl AllRes.nil) rfl rfl ⟨Int.emod_nonneg _ (by omega), Int.emod_lt_of_pos _ (by omega)⟩
theorem goNew : InGo Tryz.prog 56 := InGo.of Tryz.func56 rfl (by decide)
theorem New_ok (bs : List Int) : OkN Tryz.prog 56 [bytesC bs, intC 400] 82 (codes (bs.take 400) 0) := by
  refine OkN.enter Tryz.func56 rfl _ Tryz.ntmps56 rfl ?_
  intro S w
  (refine St.seq ?_; refine St.regionK (fun K hK => ?_); refine Ops.assign rfl rfl rfl ?_; refine Ops.nil (hK _ _ ?_); clear hK K; refine Fin.then ?_; refine St.seq ?_; refine St.seq ?_; refine St.regionK (fun K hK => ?_); refine Ops.move rfl rfl rfl ?_; refine Ops.lenF rfl rfl (by with_reducible exact sBytes.und) (List.length_map ..) rfl ?_; refine Ops.move rfl rfl rfl ?_; refine Ops.ibin igtr rfl rfl rfl rfl ?_; refine Ops.nil (hK _ _ ?_); clear hK K; refine Fin.then ?_)
  refine St.condP rfl (fun h' => ?_) (fun h' => ?_)
  · (refine St.regionK (fun K hK => ?_); refine Ops.move rfl rfl rfl ?_; refine Ops.move rfl rfl rfl ?_)
    refine Ops.cutHi rfl rfl rfl (by with_reducible exact sBytes) (by omega) (by rw [List.length_map]; omega) rfl ?_
    rw [← List.map_take]
    (refine Ops.assign rfl rfl rfl ?_; refine Ops.nil (hK _ _ ?_); clear hK K; refine Fin.then ?_; refine St.seq ?_; refine St.regionK (fun K hK => ?_); refine Ops.move rfl rfl rfl ?_)
    refine Ops.build rfl (by with_reducible exact bCodes) rfl (.one rfl rfl rfl rfl .nil) rfl ?_
    (refine Ops.boxN 0 rfl rfl rfl rfl rfl rfl rfl ?_; refine Ops.assign rfl rfl rfl ?_; refine Ops.nil (hK _ _ ?_); clear hK K; refine Fin.then ?_; refine St.ret ?_)
    refine Fin.retN rfl rfl rfl rfl
  · (refine St.skip ?_; refine Fin.then ?_; refine St.seq ?_; refine St.regionK (fun K hK => ?_); refine Ops.move rfl rfl rfl ?_)
    refine Ops.build rfl (by with_reducible exact bCodes) rfl (.one rfl rfl rfl rfl .nil) rfl ?_
    (refine Ops.boxN 0 rfl rfl rfl rfl rfl rfl rfl ?_; refine Ops.assign rfl rfl rfl ?_; refine Ops.nil (hK _ _ ?_); clear hK K; refine Fin.then ?_; refine St.ret ?_)
    refine Fin.retN rfl rfl (by rw [List.take_of_length_le (by omega)]; rfl) rfl
theorem goRoll : InGo Tryz.prog 13 := InGo.of Tryz.func13 rfl (by decide)
theorem Roll_ok (bs : List Int) : OkN Tryz.prog 13 [bytesC bs] 82 (codes (bs.take 400) 0) := by
  refine OkN.enter Tryz.func13 rfl _ Tryz.ntmps13 rfl ?_
  intro S w
  (refine St.seq ?_; refine St.regionK (fun K hK => ?_); refine Ops.assign rfl rfl rfl ?_; refine Ops.nil (hK _ _ ?_); clear hK K; refine Fin.then ?_; refine St.seq ?_; refine St.regionK (fun K hK => ?_); refine Ops.move rfl rfl rfl ?_)
  refine Ops.callN 0 goNew (New_ok bs) rfl rfl rfl rfl rfl rfl ?_
  (refine Ops.assign rfl rfl rfl ?_; refine Ops.nil (hK _ _ ?_); clear hK K; refine Fin.then ?_; refine St.ret ?_)
  refine Fin.retN rfl rfl rfl rfl
theorem goPick : InGo Tryz.prog 27 := InGo.of Tryz.func27 rfl (by decide)
theorem Pick_ok (bs : List Int) (p : Nat) (xs : List Int) (h1 : 1 ≤ xs.length) (h2 : xs.length ≤ 256) (hb : Bytes bs) :
    OkB Tryz.prog 27 82 (codes bs p) [intsC xs] (fun q : Int × Nat => q.1 ∈ xs) (fun q => intC q.1) (fun q => codes bs q.2) := by
  refine OkB.enter Tryz.func27 rfl _ Tryz.ntmps27 rfl ?_
  intro S w g
  (refine St.seq ?_; refine St.regionK (fun K hK => ?_); refine Ops.assign rfl rfl rfl ?_; refine Ops.nil (hK _ _ ?_); clear hK K; refine Fin.then ?_; refine St.seq ?_; refine St.regionK (fun K hK => ?_); refine Ops.move rfl rfl rfl ?_; refine Ops.move rfl rfl rfl ?_; refine Ops.move rfl rfl rfl ?_; refine Ops.lenF rfl rfl (by with_reducible first | exact sNat.und | exact sInts.und) (List.length_map ..) rfl ?_)
  refine Ops.callB goNext (Next_ok bs p xs.length (by omega) (by omega) hb) rfl rfl rfl rfl rfl (fun q hq => ?_)
  obtain ⟨x, p'⟩ := q
  dsimp only at hq
  (refine Ops.idxF rfl rfl rfl (by with_reducible first | exact sNat | exact sInts) (by omega) (ints_at (by omega) (by omega)) rfl ?_; refine Ops.ld1F rfl rfl rfl (by with_reducible first | exact lInt | exact lNat | exact lBool | exact lInts) rfl ?_; refine Ops.assign rfl rfl rfl ?_; refine Ops.nil (hK _ _ ?_); clear hK K; refine Fin.then ?_; refine St.ret ?_)
  refine Fin.retB (xs.getD x.toNat 0, p') [_] rfl (AllRes.tmp rfl AllRes.nil) rfl rfl ?_
  show xs.getD x.toNat 0 ∈ xs
  have hl : x.toNat < xs.length := by omega
  rw [List.getD_eq_getElem?_getD, List.getElem?_eq_getElem hl]
  exact List.getElem_mem hl
end Go.Proofs.YtdhmbgogmoaofaaGreat
namespace Go.Proofs.YtdhmbgogmoaofaaGreat
open Go.Own
attribute [local irreducible] St Ops Go.Own.Fin Ok OkB OkN
theorem goBool : InGo Tryz.prog 24 := InGo.of Tryz.func24 rfl (by decide)
theorem Bool_ok (bs : List Int) (p : Nat) (n : Int) (h1 : 1 ≤ n) (h2 : n ≤ 256) (hb : Bytes bs) :
    OkB Tryz.prog 24 82 (codes bs p) [intC n] (fun _ : Bool × Nat => True) (fun q => boolC q.1) (fun q => codes bs q.2) := by
  refine OkB.enter Tryz.func24 rfl _ Tryz.ntmps24 rfl ?_
  intro S w g
  (refine St.seq ?_; refine St.regionK (fun K hK => ?_); refine Ops.assign rfl rfl rfl ?_; refine Ops.nil (hK _ _ ?_); clear hK K; refine Fin.then ?_; refine St.seq ?_; refine St.regionK (fun K hK => ?_); refine Ops.move rfl rfl rfl ?_; refine Ops.move rfl rfl rfl ?_)
  refine Ops.callB goNext (Next_ok bs p n h1 h2 hb) rfl rfl rfl rfl rfl (fun q hq => ?_)
  obtain ⟨x, p'⟩ := q
  dsimp only at hq
  (refine Ops.move rfl rfl rfl ?_; refine Ops.ibin (isub (by omega) (by omega)) rfl rfl rfl rfl ?_; refine Ops.ibin ieql rfl rfl rfl rfl ?_; refine Ops.assign rfl rfl rfl ?_; refine Ops.nil (hK _ _ ?_); clear hK K; refine Fin.then ?_; refine St.ret ?_)
  refine Fin.retB (decide (x = n - 1), p') [_] rfl (AllRes.tmp rfl AllRes.nil) rfl rfl trivial
end Go.Proofs.YtdhmbgogmoaofaaGreat
namespace Go.Proofs.YtdhmbgogmoaofaaGreat
open Go.Own Go.Limbs
attribute [local irreducible] St Ops Go.Own.Fin Ok OkB OkN wpA
theorem zIntsD : (Tryz.prog.info? 24).map (·.size) = some 1 := by kernel_rfl
theorem bRow : bInfo Tryz.prog 57 = some (.agg #[.slice none 0 0, .int .i64 0], [(0, some 1), (1, some 1)]) := by kernel_rfl
def rws (rs : List Rw) : List CT := (rs.map rwCs).flatten
theorem rws_len (rs : List Rw) : (rws rs).length = rs.length * 2 := by
  unfold rws
  rw [flatten_length (k := 2) (fun e he => by obtain ⟨m, _, rfl⟩ := List.mem_map.mp he; rfl)]; simp
theorem rws_snoc (rs : List Rw) (r : Rw) : rws (rs ++ [r]) = rws rs ++ rwCs r := by simp [rws]
theorem rws_frozen (e : Nat) (rs : List Rw) : (Ent.row e 2 (rws rs)).frozen (sliceT 2 (rs.map rwCs)) :=
  ⟨_, rfl, fun e he => by obtain ⟨m, _, rfl⟩ := List.mem_map.mp he; rfl, by decide, rfl⟩
structure RowIn (n : Int) (r : Rw) : Prop where
  len : (r.cs.length : Int) ≤ n
  lo : ∀ c ∈ r.cs, -3 ≤ c ∧ c ≤ 5
  b1 : -4503599627370496 ≤ r.b
  b2 : r.b ≤ 4503599627370496
structure Lp where
  n : Int
  rs : List Rw
  c : List Int
  p : Nat
structure LpIn (q : Lp) : Prop where
  n0 : 0 ≤ q.n
  n1 : q.n ≤ 4
  rl : q.rs.length ≤ 6
  rs : ∀ r ∈ q.rs, RowIn q.n r
  cl : (q.c.length : Int) ≤ q.n
  c : ∀ c ∈ q.c, -2 ≤ c ∧ c ≤ 4
theorem mem_snoc {α : Type} {P : α → Prop} {xs : List α} {x : α} (h : ∀ y ∈ xs, P y) (hx : P x) : ∀ y ∈ xs ++ [x], P y := fun y hy => by
  rcases List.mem_append.1 hy with h1 | h1
  · exact h y h1
  · rcases List.mem_singleton.1 h1 with rfl; exact hx
set_option maxHeartbeats 4000000 in
theorem Program_ok (bs : List Int) (p : Nat) (hb : Bytes bs) :
    OkB Tryz.prog 14 82 (codes bs p) [] LpIn (fun q => .fr (tupT [intC q.n, rowsC q.rs, intsC q.c])) (fun q => codes bs q.p) := by
  refine OkB.enter Tryz.func14 rfl _ Tryz.ntmps14 rfl ?_
  intro S w g
  (refine St.seq ?_; refine St.regionK (fun K hK => ?_); refine Ops.assign rfl rfl rfl ?_; refine Ops.assign rfl rfl rfl ?_; refine Ops.assign rfl rfl rfl ?_; refine Ops.nil (hK _ _ ?_); clear hK K; refine Fin.then ?_; refine St.seq ?_; refine St.regionK (fun K hK => ?_); refine Ops.move rfl rfl rfl ?_)
  refine Ops.callB goNext (Next_ok bs p 5 (by decide) (by decide) hb) rfl rfl rfl rfl rfl (fun q hq => ?_)
  obtain ⟨n, p1⟩ := q
  dsimp only at hq ⊢
  (refine Ops.assign rfl rfl rfl ?_; refine Ops.nil (hK _ _ ?_); clear hK K; refine Fin.then ?_; refine St.seq ?_; refine St.regionK (fun K hK => ?_); refine Ops.assign rfl rfl rfl ?_; refine Ops.nil (hK _ _ ?_); clear hK K; refine Fin.then ?_; refine St.seq ?_; refine St.seq ?_; refine St.regionK (fun K hK => ?_); refine Ops.move rfl rfl rfl ?_)
  refine Ops.callB goNext (Next_ok bs p1 7 (by decide) (by decide) hb) rfl rfl rfl rfl rfl (fun q hq1 => ?_)
  obtain ⟨k0, p2⟩ := q
  dsimp only at hq1 ⊢
  (refine Ops.assign rfl rfl rfl ?_; refine Ops.nil (hK _ _ ?_); clear hK K; refine Fin.then ?_; refine St.block ?_)
  refine St.nilRow 6 1 57 2 rfl rfl rfl ?_
  refine St.loop (α := Int × List Rw × Nat) (fun x => 0 ≤ x.1 ∧ x.2.1.length + x.1 ≤ 6 ∧ ∀ r ∈ x.2.1, RowIn n r)
    (fun x => [(0, .own 0), (5, .ct (intC n)), (6, .own 1), (7, .ct (intC x.1))]) (fun x => [(1, .row 57 2 (rws x.2.1)), (0, .box 82 (codes bs x.2.2))]) (fun x => x.1.toNat) (k0, [], p2) ⟨by omega, by simp; omega, by simp⟩ (by exact Entails.of rfl ⟨rfl, rfl, rfl, rfl, trivial⟩) ?_
  rintro ⟨k, rs, p3⟩ ⟨hk0, hkl, hrs⟩
  dsimp only at hk0 hkl hrs ⊢
  (refine St.seq ?_; refine St.seq ?_; refine St.regionK (fun K hK => ?_); refine Ops.move rfl rfl rfl ?_; refine Ops.ibin igtr rfl rfl rfl rfl ?_; refine Ops.nil (hK _ _ ?_); clear hK K; refine Fin.then ?_)
  refine St.condP rfl (fun hk => ?_) (fun hk => ?_)
  · (refine St.skip ?_; refine Fin.then ?_; refine St.seq ?_; refine St.block ?_; refine St.seq ?_; refine St.regionK (fun K hK => ?_); refine Ops.move rfl rfl rfl ?_)
    refine Ops.callB goNext (Next_ok bs p3 30 (by decide) (by decide) hb) rfl rfl rfl rfl rfl (fun q hq2 => ?_)
    obtain ⟨b0, p4⟩ := q
    dsimp only at hq2 ⊢
    (refine Ops.ibin (isub (by omega) (by omega)) rfl rfl rfl rfl ?_)
    refine Ops.build rfl (by with_reducible exact bRow) rfl (.one rfl rfl rfl rfl .nil) rfl ?_
    (refine Ops.alloc 2 rfl rfl (by with_reducible exact zvRow) rfl rfl rfl ?_; refine Ops.stWN 2 rfl rfl rfl rfl rfl (by with_reducible exact szRow) rfl rfl ?_; refine Ops.nil (hK _ _ ?_); clear hK K; refine Fin.then ?_; refine St.seq ?_; refine St.seq ?_; refine St.regionK (fun K hK => ?_); refine Ops.move rfl rfl rfl ?_; refine Ops.move rfl rfl rfl ?_; refine Ops.ibin (iadd (by omega) (by omega)) rfl rfl rfl rfl ?_)
    refine Ops.callB goNext (Next_ok bs p4 (n + 1) (by omega) (by omega) hb) rfl rfl rfl rfl rfl (fun q hq3 => ?_)
    obtain ⟨i0, p5⟩ := q
    dsimp only at hq3 ⊢
    (refine Ops.assign rfl rfl rfl ?_; refine Ops.nil (hK _ _ ?_); clear hK K; refine Fin.then ?_; refine St.block ?_)
    refine St.nilX 3 3 1 rfl rfl ?_
    refine St.loop (α := Int × List Int × Value × Nat) (fun x => 0 ≤ x.1 ∧ x.2.1.length + x.1 ≤ n ∧ (∀ c ∈ x.2.1, -3 ≤ c ∧ c ≤ 5) ∧ x.2.2.1.oneCell' = true)
      (fun x => [(0, .own 0), (5, .ct (intC n)), (6, .own 1), (7, .ct (intC k)), (8, .own 2), (9, .ct (intC x.1))])
      (fun x => [(3, .rowx x.2.2.1 3 1 (ints x.2.1)), (2, .box 57 [.ex x.2.2.1, intC (b0 - 8)]), (1, .row 57 2 (rws rs)), (0, .box 82 (codes bs x.2.2.2))]) (fun x => x.1.toNat) (i0, [], .slice none 0 0, p5) ⟨by omega, by simp; omega, by simp, rfl⟩ (by exact Entails.of rfl ⟨rfl, rfl, rfl, rfl, rfl, rfl, trivial⟩) ?_
    · rintro ⟨i, cs, v, p6⟩ ⟨hi0, hil, hcs, hv⟩
      dsimp only at hi0 hil hcs hv ⊢
      (refine St.seq ?_; refine St.seq ?_; refine St.regionK (fun K hK => ?_); refine Ops.move rfl rfl rfl ?_; refine Ops.ibin igtr rfl rfl rfl rfl ?_; refine Ops.nil (hK _ _ ?_); clear hK K; refine Fin.then ?_)
      refine St.condP rfl (fun hi => ?_) (fun hi => ?_)
      · (refine St.skip ?_; refine Fin.then ?_; refine St.seq ?_; refine St.block ?_)
        refine St.drawA (by with_reducible exact mixed) (.p 0 (.p 2 (.fk 1 (.lin (.a 3 (.p 4 (.a 5 (.a 6 (.p 7 (.a 8 .done))))))) 3 (.p 4 (.fk 1 (.lin (.a 5 (.a 6 (.p 7 (.a 8 .done))))) 5 (.lin (.a 1 (.a 6 (.p 7 (.a 8 .done)))))))))) (by kernel_rfl) (fun K hK => ?_)
        refine Fin.p ?_
        (refine Ops.fldO rfl rfl rfl (by with_reducible first | exact fC0 | exact fC1 | exact fR0 | exact fR1) rfl ?_)
        refine Ops.nil (Fin.p ?_)
        (refine Ops.move rfl rfl rfl ?_)
        refine Ops.nil (Fin.fk ?_ ?_)
        · (refine Ops.ld1A rfl rfl rfl rfl rfl (by with_reducible first | exact lBytes | exact lInt | exact lInts) rfl ?_)
          refine Ops.nil (Fin.lin ?_)
          refine Ops.callB goNext (Next_ok bs p6 9 (by decide) (by decide) hb) rfl rfl rfl rfl rfl (fun q hq4 => ?_)
          obtain ⟨c, p7⟩ := q
          dsimp only at hq4 ⊢
          (refine Ops.ibin (isub (by omega) (by omega)) rfl rfl rfl rfl ?_)
          refine Ops.lit1 rfl rfl (by with_reducible exact sInts) rfl rfl rfl ?_
          skip
          refine Ops.link 33 3 rfl rfl ?_
          refine Ops.append1 cs.length (ints (cs ++ [c - 3])) rfl rfl rfl rfl (by with_reducible exact sInts) (by simp [ints]) rfl (by omega) (by omega) (by simp [ints]) rfl ?_
          (refine Ops.fldO rfl rfl rfl (by with_reducible first | exact fC0 | exact fC1 | exact fR0 | exact fR1) rfl ?_)
          refine Ops.name 38 3 rfl rfl (fun v' hv' => ?_)
          refine Ops.st1A (c := .ex v') rfl rfl rfl rfl hv' (by with_reducible exact zIntsD) (by simp [Ent.cs]) ?_
          (refine Ops.nil (hK _ _ ?_); clear hK K; refine Fin.then ?_; refine St.regionK (fun K hK => ?_); refine Ops.move rfl rfl rfl ?_; refine Ops.ibin (isub (by omega) (by omega)) rfl rfl rfl rfl ?_; refine Ops.assign rfl rfl rfl ?_; refine Ops.nil (hK _ _ ?_); clear hK K; refine Fin.thenN ?_)
          refine Fin.next (i - 1, cs ++ [c - 3], v', p7) (by dsimp only; omega) ⟨by dsimp only; omega, by simp; omega, mem_snoc hcs (by omega), hv'⟩ (by exact Entails.of rfl ⟨rfl, rfl, rfl, rfl, rfl, rfl, trivial⟩)
        · refine Ops.callB goNext (Next_ok bs p6 9 (by decide) (by decide) hb) rfl rfl rfl rfl rfl (fun q hq4 => ?_)
          obtain ⟨c, p7⟩ := q
          dsimp only at hq4 ⊢
          skip
          refine Ops.nil (Fin.p ?_)
          (refine Ops.ibin (isub (by omega) (by omega)) rfl rfl rfl rfl ?_)
          refine Ops.nil (Fin.fk ?_ ?_)
          · (refine Ops.ld1A rfl rfl rfl rfl rfl (by with_reducible first | exact lBytes | exact lInt | exact lInts) rfl ?_)
            refine Ops.nil (Fin.lin ?_)
            refine Ops.lit1 rfl rfl (by with_reducible exact sInts) rfl rfl rfl ?_
            skip
            refine Ops.link 33 3 rfl rfl ?_
            refine Ops.append1 cs.length (ints (cs ++ [c - 3])) rfl rfl rfl rfl (by with_reducible exact sInts) (by simp [ints]) rfl (by omega) (by omega) (by simp [ints]) rfl ?_
            (refine Ops.fldO rfl rfl rfl (by with_reducible first | exact fC0 | exact fC1 | exact fR0 | exact fR1) rfl ?_)
            refine Ops.name 38 3 rfl rfl (fun v' hv' => ?_)
            refine Ops.st1A (c := .ex v') rfl rfl rfl rfl hv' (by with_reducible exact zIntsD) (by simp [Ent.cs]) ?_
            (refine Ops.nil (hK _ _ ?_); clear hK K; refine Fin.then ?_; refine St.regionK (fun K hK => ?_); refine Ops.move rfl rfl rfl ?_; refine Ops.ibin (isub (by omega) (by omega)) rfl rfl rfl rfl ?_; refine Ops.assign rfl rfl rfl ?_; refine Ops.nil (hK _ _ ?_); clear hK K; refine Fin.thenN ?_)
            refine Fin.next (i - 1, cs ++ [c - 3], v', p7) (by dsimp only; omega) ⟨by dsimp only; omega, by simp; omega, mem_snoc hcs (by omega), hv'⟩ (by exact Entails.of rfl ⟨rfl, rfl, rfl, rfl, rfl, rfl, trivial⟩)
          · refine Ops.lit1 rfl rfl (by with_reducible exact sInts) rfl rfl rfl ?_
            refine Ops.nil (Fin.lin ?_)
            (refine Ops.ld1A rfl rfl rfl rfl rfl (by with_reducible first | exact lBytes | exact lInt | exact lInts) rfl ?_)
            refine Ops.link 33 3 rfl rfl ?_
            refine Ops.append1 cs.length (ints (cs ++ [c - 3])) rfl rfl rfl rfl (by with_reducible exact sInts) (by simp [ints]) rfl (by omega) (by omega) (by simp [ints]) rfl ?_
            (refine Ops.fldO rfl rfl rfl (by with_reducible first | exact fC0 | exact fC1 | exact fR0 | exact fR1) rfl ?_)
            refine Ops.name 38 3 rfl rfl (fun v' hv' => ?_)
            refine Ops.st1A (c := .ex v') rfl rfl rfl rfl hv' (by with_reducible exact zIntsD) (by simp [Ent.cs]) ?_
            (refine Ops.nil (hK _ _ ?_); clear hK K; refine Fin.then ?_; refine St.regionK (fun K hK => ?_); refine Ops.move rfl rfl rfl ?_; refine Ops.ibin (isub (by omega) (by omega)) rfl rfl rfl rfl ?_; refine Ops.assign rfl rfl rfl ?_; refine Ops.nil (hK _ _ ?_); clear hK K; refine Fin.thenN ?_)
            refine Fin.next (i - 1, cs ++ [c - 3], v', p7) (by dsimp only; omega) ⟨by dsimp only; omega, by simp; omega, mem_snoc hcs (by omega), hv'⟩ (by exact Entails.of rfl ⟨rfl, rfl, rfl, rfl, rfl, rfl, trivial⟩)
      · refine St.frzX 3 2 0 _ rfl rfl rfl (ints_frozen _ _) (okFix_lent rfl) ?_
        (refine St.exit ?_; refine Fin.then ?_; refine St.seq ?_; refine St.seq ?_; refine St.regionK (fun K hK => ?_); refine Ops.move rfl rfl rfl ?_)
        refine Ops.callB goBool (Bool_ok bs p6 16 (by decide) (by decide) hb) rfl rfl rfl rfl rfl (fun q _ => ?_)
        obtain ⟨b, p7⟩ := q
        dsimp only
        (refine Ops.nil (hK _ _ ?_); clear hK K; refine Fin.then ?_)
        refine St.condB rfl (fun _ => ?_) (fun _ => ?_)
        · (refine St.regionK (fun K hK => ?_); refine Ops.move rfl rfl rfl ?_)
          refine Ops.lit (m := 2) (cs := [intC (-4503599627370496), intC 4503599627370496]) rfl rfl (by with_reducible exact sInts) (.one rfl rfl rfl rfl (.one rfl rfl rfl rfl .nil)) (by decide) rfl ?_
          refine Ops.callB goPick (Pick_ok bs p7 [-4503599627370496, 4503599627370496] (by decide) (by decide) hb) rfl rfl rfl rfl rfl (fun q hq5 => ?_)
          obtain ⟨b1, p8⟩ := q
          have hb1 : b1 = -4503599627370496 ∨ b1 = 4503599627370496 := by simpa using hq5
          dsimp only
          (refine Ops.fldO rfl rfl rfl (by with_reducible first | exact fC0 | exact fC1 | exact fR0 | exact fR1) rfl ?_; refine Ops.st1A rfl rfl rfl rfl rfl (by with_reducible exact zInt) (by simp [Ent.cs]) ?_; refine Ops.nil (hK _ _ ?_); clear hK K; refine Fin.then ?_; refine St.regionK (fun K hK => ?_); refine Ops.move rfl rfl rfl ?_; refine Ops.ldNO (n := 2) rfl rfl rfl rfl rfl (by with_reducible exact lRow) rfl ?_)
          refine Ops.litN (n := 2) rfl rfl (by with_reducible exact sRows) rfl rfl (by decide) rfl ?_
          refine Ops.append1 rs.length (rws (rs ++ [⟨cs, b1⟩])) rfl rfl rfl rfl (by with_reducible exact sRows) (rws_len rs) rfl (by omega) (by omega) (rws_snoc rs ⟨cs, b1⟩) rfl ?_
          (refine Ops.assign rfl rfl rfl ?_; refine Ops.nil (hK _ _ ?_); clear hK K; refine Fin.then ?_; refine St.regionK (fun K hK => ?_); refine Ops.move rfl rfl rfl ?_; refine Ops.ibin (isub (by omega) (by omega)) rfl rfl rfl rfl ?_; refine Ops.assign rfl rfl rfl ?_; refine Ops.nil (hK _ _ ?_); clear hK K; refine Fin.thenN ?_)
          refine Fin.dropB 2 ?_
          refine Fin.next (k - 1, rs ++ [⟨cs, b1⟩], p8) (by dsimp only; omega) ⟨by dsimp only; omega, by simp; omega, mem_snoc hrs ⟨by dsimp only; omega, hcs, by dsimp only; omega, by dsimp only; omega⟩⟩ (by exact Entails.of rfl ⟨rfl, rfl, rfl, rfl, trivial⟩)
        · (refine St.skip ?_; refine Fin.then ?_; refine St.regionK (fun K hK => ?_); refine Ops.move rfl rfl rfl ?_; refine Ops.ldNO (n := 2) rfl rfl rfl rfl rfl (by with_reducible exact lRow) rfl ?_)
          refine Ops.litN (n := 2) rfl rfl (by with_reducible exact sRows) rfl rfl (by decide) rfl ?_
          refine Ops.append1 rs.length (rws (rs ++ [⟨cs, b0 - 8⟩])) rfl rfl rfl rfl (by with_reducible exact sRows) (rws_len rs) rfl (by omega) (by omega) (rws_snoc rs ⟨cs, b0 - 8⟩) rfl ?_
          (refine Ops.assign rfl rfl rfl ?_; refine Ops.nil (hK _ _ ?_); clear hK K; refine Fin.then ?_; refine St.regionK (fun K hK => ?_); refine Ops.move rfl rfl rfl ?_; refine Ops.ibin (isub (by omega) (by omega)) rfl rfl rfl rfl ?_; refine Ops.assign rfl rfl rfl ?_; refine Ops.nil (hK _ _ ?_); clear hK K; refine Fin.thenN ?_)
          refine Fin.dropB 2 ?_
          refine Fin.next (k - 1, rs ++ [⟨cs, b0 - 8⟩], p7) (by dsimp only; omega) ⟨by dsimp only; omega, by simp; omega, mem_snoc hrs ⟨by dsimp only; omega, hcs, by dsimp only; omega, by dsimp only; omega⟩⟩ (by exact Entails.of rfl ⟨rfl, rfl, rfl, rfl, trivial⟩)
  · (refine St.exit ?_; refine Fin.then ?_; refine St.seq ?_; refine St.regionK (fun K hK => ?_); refine Ops.assign rfl rfl rfl ?_; refine Ops.nil (hK _ _ ?_); clear hK K; refine Fin.then ?_; refine St.seq ?_; refine St.seq ?_; refine St.regionK (fun K hK => ?_); refine Ops.move rfl rfl rfl ?_; refine Ops.move rfl rfl rfl ?_; refine Ops.ibin (iadd (by omega) (by omega)) rfl rfl rfl rfl ?_)
    refine Ops.callB goNext (Next_ok bs p3 (n + 1) (by omega) (by omega) hb) rfl rfl rfl rfl rfl (fun q hq3 => ?_)
    obtain ⟨i0, p5⟩ := q
    dsimp only at hq3 ⊢
    (refine Ops.assign rfl rfl rfl ?_; refine Ops.nil (hK _ _ ?_); clear hK K; refine Fin.then ?_; refine St.block ?_)
    refine St.nilRow 10 2 3 1 rfl rfl rfl ?_
    refine St.loop (α := Int × List Int × Nat) (fun x => 0 ≤ x.1 ∧ x.2.1.length + x.1 ≤ n ∧ (∀ c ∈ x.2.1, -2 ≤ c ∧ c ≤ 4))
      (fun x => [(0, .own 0), (5, .ct (intC n)), (6, .own 1), (10, .own 2), (11, .ct (intC x.1))])
      (fun x => [(2, .row 3 1 (ints x.2.1)), (1, .row 57 2 (rws rs)), (0, .box 82 (codes bs x.2.2))]) (fun x => x.1.toNat) (i0, [], p5) ⟨by omega, by simp; omega, by simp⟩ (by exact Entails.of rfl ⟨rfl, rfl, rfl, rfl, rfl, trivial⟩) ?_
    rintro ⟨i, cs, p6⟩ ⟨hi0, hil, hcs⟩
    dsimp only at hi0 hil hcs ⊢
    (refine St.seq ?_; refine St.seq ?_; refine St.regionK (fun K hK => ?_); refine Ops.move rfl rfl rfl ?_; refine Ops.ibin igtr rfl rfl rfl rfl ?_; refine Ops.nil (hK _ _ ?_); clear hK K; refine Fin.then ?_)
    refine St.condP rfl (fun hi => ?_) (fun hi => ?_)
    · (refine St.skip ?_; refine Fin.then ?_; refine St.seq ?_; refine St.block ?_; refine St.regionK (fun K hK => ?_); refine Ops.move rfl rfl rfl ?_; refine Ops.move rfl rfl rfl ?_)
      refine Ops.callB goNext (Next_ok bs p6 7 (by decide) (by decide) hb) rfl rfl rfl rfl rfl (fun q hq4 => ?_)
      obtain ⟨c, p7⟩ := q
      dsimp only at hq4 ⊢
      (refine Ops.ibin (isub (by omega) (by omega)) rfl rfl rfl rfl ?_)
      refine Ops.lit1 rfl rfl (by with_reducible exact sInts) rfl rfl rfl ?_
      refine Ops.append1 cs.length (ints (cs ++ [c - 2])) rfl rfl rfl rfl (by with_reducible exact sInts) (by simp [ints]) rfl (by omega) (by omega) (by simp [ints]) rfl ?_
      (refine Ops.assign rfl rfl rfl ?_; refine Ops.nil (hK _ _ ?_); clear hK K; refine Fin.then ?_; refine St.regionK (fun K hK => ?_); refine Ops.move rfl rfl rfl ?_; refine Ops.ibin (isub (by omega) (by omega)) rfl rfl rfl rfl ?_; refine Ops.assign rfl rfl rfl ?_; refine Ops.nil (hK _ _ ?_); clear hK K; refine Fin.thenN ?_)
      refine Fin.next (i - 1, cs ++ [c - 2], p7) (by dsimp only; omega) ⟨by dsimp only; omega, by simp; omega, mem_snoc hcs (by omega)⟩ (by exact Entails.of rfl ⟨rfl, rfl, rfl, rfl, rfl, trivial⟩)
    · refine St.frz 1 _ rfl (rws_frozen _ _) (okFix_lent rfl) ?_
      refine St.frz 2 _ rfl (ints_frozen _ _) (okFix_lent rfl) ?_
      (refine St.exit ?_; refine Fin.then ?_; refine St.seq ?_; refine St.regionK (fun K hK => ?_); refine Ops.move rfl rfl rfl ?_; refine Ops.move rfl rfl rfl ?_; refine Ops.move rfl rfl rfl ?_; refine Ops.assign rfl rfl rfl ?_; refine Ops.assign rfl rfl rfl ?_; refine Ops.assign rfl rfl rfl ?_; refine Ops.nil (hK _ _ ?_); clear hK K; refine Fin.then ?_; refine St.ret ?_)
      refine Fin.retB ⟨n, rs, cs, p6⟩ [_, _, _] rfl (AllRes.tmp rfl (AllRes.tmp rfl (AllRes.tmp rfl AllRes.nil))) rfl rfl ⟨hq.1, by show n ≤ 4; omega, by show rs.length ≤ 6; omega, hrs, by show (cs.length : Int) ≤ n; omega, hcs⟩
theorem goProgram : InGo Tryz.prog 14 := InGo.of Tryz.func14 rfl (by decide)
end Go.Proofs.YtdhmbgogmoaofaaGreat
namespace Go.Proofs.YtdhmbgogmoaofaaGreat
open Go.Own Go.Limbs
attribute [local irreducible] St Ops Go.Own.Fin Ok OkB OkN OkM wpA
theorem gowhole34 : InGo Tryz.prog 37 := InGo.of Tryz.func37 rfl (by decide)
set_option maxHeartbeats 2000000 in
theorem whole34_ok (n : Int) (h1 : -9223372036854775808 ≤ n) (h2 : n ≤ 9223372036854775807) : Ok Tryz.prog 37 [intC n] (ratC (n : Rat)) := by
  have hF := rFrom_ok n 1 h1 h2 (by decide) (by decide) (by decide)
  rw [divInt_one] at hF
  refine Ok.enter Tryz.func37 rfl _ Tryz.ntmps37 rfl ?_
  intro S w
  (refine St.seq ?_; refine St.regionK (fun K hK => ?_); refine Ops.alloc 0 rfl rfl (by with_reducible first | exact zvFrac) rfl rfl rfl ?_; refine Ops.nil (hK _ _ ?_); clear hK K; refine Fin.then ?_; refine St.seq ?_; refine St.regionK (fun K hK => ?_); refine Ops.move rfl rfl rfl ?_)
  refine Ops.call gorFrom hF rfl rfl rfl rfl ?_
  (refine Ops.move rfl rfl rfl ?_; refine Ops.extract rfl rfl rfl rfl ?_; refine Ops.extract rfl rfl rfl rfl ?_; refine Ops.alloc 1 rfl rfl (by with_reducible first | exact zvFrac) rfl rfl rfl ?_; refine Ops.stWN 3 rfl rfl rfl rfl rfl (by with_reducible exact szFrac) rfl rfl ?_; refine Ops.assign rfl rfl rfl ?_; refine Ops.nil (hK _ _ ?_); clear hK K; refine Fin.then ?_; refine St.seq ?_; refine St.regionK (fun K hK => ?_); refine Ops.ldNO (n := 3) rfl rfl rfl rfl rfl (by with_reducible exact lFrac) rfl ?_; refine Ops.stWN 3 rfl rfl rfl rfl rfl (by with_reducible exact szFrac) rfl rfl ?_; refine Ops.nil (hK _ _ ?_); clear hK K; refine Fin.then ?_; refine St.ret ?_)
  refine Fin.ret [_] rfl (AllRes.cellN (n := 3) rfl rfl (by with_reducible exact lFrac) rfl AllRes.nil) rfl rfl
def aw1 : List Rw := [⟨[1, 1], 4⟩, ⟨[1], 3⟩]
def aw2 : List Rw := [⟨[-1], -5⟩, ⟨[1], 3⟩]
def awX : List Fr := [ofQ (3 : Int), ofQ (1 : Int)]
theorem aw_lp1 : LpOk 2 aw1 [2, 1] := by
  obtain ⟨N, h, hL⟩ := lp_of (n := 2) (rs := aw1) (c := [2, 1]) (by decide) (by decide)
  rwa [show N = 2 by omega] at hL
theorem aw_lp2 : LpOk 1 aw2 [] := by
  obtain ⟨N, h, hL⟩ := lp_of (n := 1) (rs := aw2) (c := []) (by decide) (by decide)
  rwa [show N = 1 by omega] at hL
theorem aw_F1 : Go.Proofs.YtdhmbgogmoaofaaGreat.Feas 2 aw1 1 (fun j => if j = 0 then 3 else 1) := ⟨by decide, by decide, by decide⟩
theorem aw_D1 : Go.Proofs.YtdhmbgogmoaofaaGreat.Dual 2 aw1 [2, 1] 1 (fun _ => 1) := ⟨by decide, by decide, by decide⟩
theorem aw_R2 : Go.Proofs.YtdhmbgogmoaofaaGreat.Refu 1 aw2 1 (fun _ => 1) := ⟨by decide, by decide, by decide, by decide⟩
theorem aw_Max : Ok Tryz.prog 26 [intC 2, rowsC aw1, intsC [2, 1]] (.fr (tupT [fracC (ofQ (7 : Int)), boolC true, intC 0])) := by
  obtain ⟨T, E, F, s, R, hs⟩ := lp_sol aw_lp1
  have h := Maximum_of 2 aw1 [2, 1] _ 0 (Solve_ok 2 aw1 [2, 1] aw_lp1 (by decide) (by decide) R)
  obtain ⟨h1, h2⟩ := sol_opt hs aw_F1 aw_D1 (v := 7) (by decide) (by decide)
  rw [h2, h1] at h
  exact h
theorem aw_Fea : Ok Tryz.prog 34 [intC 1, rowsC aw2] (.fr (tupT [boolC false, intC 0])) := by
  obtain ⟨T, E, F, s, R, hs⟩ := lp_sol aw_lp2
  have h := Feasible_of 1 aw2 _ 0 (Solve_ok 1 aw2 [] aw_lp2 (by decide) (by decide) R)
  have h1 := sol_emp hs aw_R2
  rw [h1] at h
  exact h
theorem aw_f6 : ∀ f ∈ awX, F6 f := by
  intro f hf
  rcases List.mem_cons.1 hf with h | h
  · subst h; exact ⟨by decide +kernel, by decide +kernel, by decide +kernel, by decide +kernel⟩
  · rw [List.mem_singleton.1 h]; exact ⟨by decide +kernel, by decide +kernel, by decide +kernel, by decide +kernel⟩
theorem aw_Sat : Ok Tryz.prog 20 [intC 2, rowsC aw1, fracsC awX] (boolC true) := by
  have h := Satisfies_gen 2 aw1 awX (by decide) (by decide) (by decide) (fun f hf => (aw_f6 f hf).vf) (fun _ _ => sfit6 2 aw1 awX (by decide) (by decide) aw_f6)
  rwa [show satB 2 aw1 awX = true by decide +kernel] at h
theorem goawake34 : InGo Tryz.prog 11 := InGo.of Tryz.func11 rfl (by decide)
set_option maxHeartbeats 4000000 in
theorem awake34_ok : Ok Tryz.prog 11 [] (boolC true) := by
  have hM := aw_Max
  have hF := aw_Fea
  have hS := aw_Sat
  have hV := LValid_ok 2 aw1 (by decide) (by decide)
  rw [show validR 2 aw1 = true by decide] at hV
  have hE := Equal_refl (ofQ (7 : Int)) (by decide +kernel) (by decide +kernel)
  have w1 := whole34_ok 1 (by decide) (by decide)
  have w3 := whole34_ok 3 (by decide) (by decide)
  have w7 : Ok Tryz.prog 37 [intC 7] (fracC (ofQ (7 : Int))) := whole34_ok 7 (by decide) (by decide)
  generalize h7 : ofQ (7 : Int) = q7 at hM hE w7
  refine Ok.enter Tryz.func11 rfl _ Tryz.ntmps11 rfl ?_
  intro S w
  (refine St.seq ?_; refine St.regionK (fun K hK => ?_); refine Ops.assign rfl rfl rfl ?_; refine Ops.nil (hK _ _ ?_); clear hK K; refine Fin.then ?_; refine St.seq ?_; refine St.regionK (fun K hK => ?_))
  refine Ops.lit (m := 2) (cs := [intC 1, intC 1]) rfl rfl (by with_reducible exact sInts) (.one rfl rfl rfl rfl (.one rfl rfl rfl rfl .nil)) (by decide) rfl ?_
  refine Ops.build rfl (by with_reducible exact bRow) rfl (.one rfl rfl rfl rfl (.one rfl rfl rfl rfl .nil)) rfl ?_
  refine Ops.lit1 rfl rfl (by with_reducible exact sInts) rfl rfl rfl ?_
  refine Ops.build rfl (by with_reducible exact bRow) rfl (.one rfl rfl rfl rfl (.one rfl rfl rfl rfl .nil)) rfl ?_
  refine Ops.lit (m := 2) (n := 2) (cs := rwCs ⟨[1, 1], 4⟩ ++ rwCs ⟨[1], 3⟩) rfl rfl (by with_reducible exact sRows) (.agg rfl rfl rfl rfl (.agg rfl rfl rfl rfl .nil)) (by decide) rfl ?_
  refine Ops.assign rfl rfl rfl ?_
  refine Ops.nil (hK _ _ ?_)
  clear hK K
  refine Fin.keep [(1, .ct (rowsC aw1))] ⟨rfl, trivial⟩ ?_
  (refine Fin.then ?_; refine St.seq ?_; refine St.regionK (fun K hK => ?_); refine Ops.move rfl rfl rfl ?_)
  refine Ops.lit (m := 2) (cs := [intC 2, intC 1]) rfl rfl (by with_reducible exact sInts) (.one rfl rfl rfl rfl (.one rfl rfl rfl rfl .nil)) (by decide) rfl ?_
  refine Ops.call goMaximum hM rfl rfl rfl rfl ?_
  (refine Ops.move rfl rfl rfl ?_; refine Ops.extract rfl rfl rfl rfl ?_; refine Ops.extract rfl rfl rfl rfl ?_; refine Ops.extract rfl rfl rfl rfl ?_; refine Ops.alloc 0 rfl rfl (by with_reducible first | exact zvFrac) rfl rfl rfl ?_; refine Ops.stWN 3 rfl rfl rfl rfl rfl (by with_reducible exact szFrac) rfl rfl ?_; refine Ops.assign rfl rfl rfl ?_; refine Ops.assign rfl rfl rfl ?_; refine Ops.nil (hK _ _ ?_); clear hK K; refine Fin.then ?_; refine St.seq ?_; refine St.regionK (fun K hK => ?_))
  refine Ops.lit1 rfl rfl (by with_reducible exact sInts) rfl rfl rfl ?_
  refine Ops.build rfl (by with_reducible exact bRow) rfl (.one rfl rfl rfl rfl (.one rfl rfl rfl rfl .nil)) rfl ?_
  refine Ops.lit1 rfl rfl (by with_reducible exact sInts) rfl rfl rfl ?_
  refine Ops.build rfl (by with_reducible exact bRow) rfl (.one rfl rfl rfl rfl (.one rfl rfl rfl rfl .nil)) rfl ?_
  refine Ops.lit (m := 2) (n := 2) (cs := rwCs ⟨[-1], -5⟩ ++ rwCs ⟨[1], 3⟩) rfl rfl (by with_reducible exact sRows) (.agg rfl rfl rfl rfl (.agg rfl rfl rfl rfl .nil)) (by decide) rfl ?_
  refine Ops.call goFeasible hF rfl rfl rfl rfl ?_
  (refine Ops.move rfl rfl rfl ?_; refine Ops.extract rfl rfl rfl rfl ?_; refine Ops.extract rfl rfl rfl rfl ?_; refine Ops.assign rfl rfl rfl ?_; refine Ops.assign rfl rfl rfl ?_; refine Ops.nil (hK _ _ ?_); clear hK K; refine Fin.then ?_; refine St.seq ?_)
  refine St.drawK (by with_reducible exact mixed) 30 (.p 0 (.p 1 (.p 2 (.p 3 (.p 4 (.p 5 (.f 6 (.m 7 (.m 8 (.p 9 (.p 10 (.p 11 (.p 12 (.p 13 (.p 14 (.p 15 (.p 16 (.p 17 (.p 18 (.p 19 (.m 20 (.m 21 (.m 22 (.m 23 (.p 24 (.p 25 (.p 26 (.m 27 (.p 28 (.p 29 .done)))))))))))))))))))))))))))))) (by kernel_rfl) (fun K hK => ?_)
  (refine Ops.move rfl rfl rfl ?_; refine Ops.move rfl rfl rfl ?_; refine Ops.move rfl rfl rfl ?_; refine Ops.ibin ieql rfl rfl rfl rfl ?_; refine Ops.pickT rfl rfl rfl rfl ?_; refine Ops.move rfl rfl rfl ?_; refine Ops.ldNO (n := 3) rfl rfl rfl rfl rfl (by with_reducible exact lFrac) rfl ?_)
  refine Ops.call gowhole34 w7 rfl rfl rfl rfl ?_
  skip
  refine Ops.call goEqual hE rfl rfl rfl rfl ?_
  (refine Ops.pickT rfl rfl rfl rfl ?_; refine Ops.move rfl rfl rfl ?_; refine Ops.move rfl rfl rfl ?_; refine Ops.inot rfl rfl rfl ?_; refine Ops.pickT rfl rfl rfl rfl ?_; refine Ops.move rfl rfl rfl ?_; refine Ops.move rfl rfl rfl ?_; refine Ops.ibin ieql rfl rfl rfl rfl ?_; refine Ops.pickT rfl rfl rfl rfl ?_; refine Ops.move rfl rfl rfl ?_; refine Ops.move rfl rfl rfl ?_)
  refine Ops.call gowhole34 w3 rfl rfl rfl rfl ?_
  refine Ops.call gowhole34 w1 rfl rfl rfl rfl ?_
  refine Ops.lit (m := 2) (n := 3) (cs := frCs (ofQ (3 : Int)) ++ frCs (ofQ (1 : Int))) rfl rfl (by with_reducible exact sFracs) (.agg rfl rfl rfl rfl (.agg rfl rfl rfl rfl .nil)) (by decide) rfl ?_
  refine Ops.call goSatisfies hS rfl rfl rfl rfl ?_
  (refine Ops.pickT rfl rfl rfl rfl ?_; refine Ops.move rfl rfl rfl ?_; refine Ops.move rfl rfl rfl ?_)
  refine Ops.call goLValid hV rfl rfl rfl rfl ?_
  (refine Ops.pickT rfl rfl rfl rfl ?_; refine Ops.assign rfl rfl rfl ?_; refine Ops.nil (hK _ _ ?_); clear hK K; refine Fin.then ?_; refine St.ret ?_)
  refine Fin.ret [_] rfl (AllRes.tmp rfl AllRes.nil) rfl rfl
end Go.Proofs.YtdhmbgogmoaofaaGreat
namespace Go.Proofs.YtdhmbgogmoaofaaGreat
open Go.Own Go.Limbs
attribute [local irreducible] St Ops Go.Own.Fin Ok OkB OkN OkM wpA
structure Rf where
  neg : Bool
  xs : List Int
  ys : List Int
def rf0 : Rf := ⟨false, [], []⟩
abbrev rfCs (f : Rf) : List CT := [boolC f.neg, intsC f.xs, intsC f.ys]
abbrev rfsC (x : List Rf) : CT := .fr (sliceT 3 (x.map rfCs))
theorem rfs_at {fs : List Rf} {j : Int} (h0 : 0 ≤ j) (h : j < (fs.length : Int)) : (fs.map rfCs)[j.toNat]? = some (rfCs (fs.getD j.toNat rf0)) := map_at rfCs rf0 h0 h
def okRf (f : Rf) : Bool := (decide (f.xs.length ≤ 6) && decide (f.ys.length ≤ 6)) && fvalidL f.neg f.xs f.ys
def smallB (rs : List Rw) (c : List Int) (x : List Rf) : Bool := (decide (rs.length ≤ 6) && decide (c.length ≤ 6) && decide (x.length ≤ 6)) && (rs.all (fun r => decide (r.cs.length ≤ 6)) && x.all okRf)
theorem okRf_fr {f : Rf} (h : okRf f = true) : ∃ g : Fr, F6 g ∧ rfCs f = frCs g := by
  obtain ⟨neg, xs, ys⟩ := f
  unfold okRf fvalidL at h
  simp only [Bool.and_eq_true, decide_eq_true_eq, Bool.not_eq_true'] at h
  obtain ⟨⟨h1, h2⟩, ⟨⟨⟨h3, _⟩, h4, _⟩, h5⟩, h6⟩ := h
  obtain ⟨a, rfl⟩ := validL_spec h3
  obtain ⟨b, rfl⟩ := validL_spec h4
  refine ⟨⟨neg, a, b⟩, F6.of ⟨by dsimp only; omega, by dsimp only; omega, ?_, ?_⟩ h1 h2, rfl⟩
  · dsimp only
    rcases Nat.eq_zero_or_pos b with h | h
    · subst h; exact absurd h5 (by decide +kernel)
    · exact h
  · intro hn h0
    dsimp only at hn h0
    subst hn h0
    rw [limbs_zero] at h6; simp at h6
theorem okRf_all {x : List Rf} (h : x.all okRf = true) : ∃ xs : List Fr, x.map rfCs = xs.map frCs ∧ xs.length = x.length ∧ ∀ f ∈ xs, F6 f := by
  induction x with
  | nil => exact ⟨[], rfl, rfl, fun f h => nomatch h⟩
  | cons f x ih =>
    simp only [List.all_cons, Bool.and_eq_true] at h
    obtain ⟨g, hg, eg⟩ := okRf_fr h.1
    obtain ⟨xs, e1, e2, e3⟩ := ih h.2
    refine ⟨g :: xs, by rw [List.map_cons, List.map_cons, eg, e1], by simp [e2], ?_⟩
    intro y hy
    rcases List.mem_cons.1 hy with rfl | hy
    · exact hg
    · exact e3 y hy
theorem gosmall34 : InGo Tryz.prog 12 := InGo.of Tryz.func12 (by kernel_rfl) (by kernel_rfl)
set_option maxHeartbeats 4000000 in
theorem small34_ok (rs : List Rw) (c : List Int) (x : List Rf) (hrl : rs.length ≤ 9223372036854775807) (hr : ∀ r ∈ rs, r.cs.length ≤ 9223372036854775807) (hcl : c.length ≤ 9223372036854775807) (hxl : x.length ≤ 9223372036854775807) (hx : ∀ f ∈ x, f.xs.length ≤ 9223372036854775807 ∧ f.ys.length ≤ 9223372036854775807) :
    Ok Tryz.prog 12 [rowsC rs, intsC c, rfsC x] (boolC (smallB rs c x)) := by
  have e0 : smallB rs c x = ((decide (rs.length ≤ 6) && decide (c.length ≤ 6) && decide (x.length ≤ 6)) && (rs.all (fun r => decide (r.cs.length ≤ 6)) && x.all okRf)) := rfl
  refine Ok.enter Tryz.func12 rfl _ Tryz.ntmps12 rfl ?_
  intro S w
  (refine St.seq ?_; refine St.regionK (fun K hK => ?_); refine Ops.assign rfl rfl rfl ?_; refine Ops.nil (hK _ _ ?_); clear hK K; refine Fin.then ?_; refine St.seq ?_; refine St.seq ?_; refine St.regionK (fun K hK => ?_); refine Ops.move rfl rfl rfl ?_; refine Ops.lenF rfl rfl (by with_reducible first | exact sFracs.und | exact sRows.und) (List.length_map ..) rfl ?_; refine Ops.ibin igtr rfl rfl rfl rfl ?_; refine Ops.move rfl rfl rfl ?_)
  refine Ops.splitP 14 rfl (fun h => ?_) (fun h => ?_)
  · (refine Ops.skip rfl rfl rfl ?_; refine Ops.skip rfl rfl rfl ?_; refine Ops.skip rfl rfl rfl ?_; refine Ops.pickT rfl rfl rfl rfl ?_; refine Ops.move rfl rfl rfl ?_; refine Ops.skip rfl rfl rfl ?_; refine Ops.skip rfl rfl rfl ?_; refine Ops.skip rfl rfl rfl ?_; refine Ops.pickT rfl rfl rfl rfl ?_; refine Ops.nil (hK _ _ ?_); clear hK K; refine Fin.then ?_; refine St.condT rfl ?_; refine St.seq ?_; refine St.regionK (fun K hK => ?_); refine Ops.assign rfl rfl rfl ?_; refine Ops.nil (hK _ _ ?_); clear hK K; refine Fin.then ?_; refine St.ret ?_; refine Fin.thenRet ?_)
    refine Fin.ret [_] rfl (AllRes.tmp rfl AllRes.nil) (by rw [e0, decide_eq_false (show ¬ rs.length ≤ 6 by omega)]; rfl) rfl
  (refine Ops.move rfl rfl rfl ?_; refine Ops.lenF rfl rfl (by with_reducible first | exact sNat.und | exact sInts.und) (List.length_map ..) rfl ?_; refine Ops.ibin igtr rfl rfl rfl rfl ?_; refine Ops.pickF rfl rfl rfl rfl ?_; refine Ops.move rfl rfl rfl ?_)
  refine Ops.splitP 19 rfl (fun h2 => ?_) (fun h2 => ?_)
  · (refine Ops.skip rfl rfl rfl ?_; refine Ops.skip rfl rfl rfl ?_; refine Ops.skip rfl rfl rfl ?_; refine Ops.pickT rfl rfl rfl rfl ?_; refine Ops.nil (hK _ _ ?_); clear hK K; refine Fin.then ?_; refine St.condT rfl ?_; refine St.seq ?_; refine St.regionK (fun K hK => ?_); refine Ops.assign rfl rfl rfl ?_; refine Ops.nil (hK _ _ ?_); clear hK K; refine Fin.then ?_; refine St.ret ?_; refine Fin.thenRet ?_)
    refine Fin.ret [_] rfl (AllRes.tmp rfl AllRes.nil) (by rw [e0, decide_eq_false (show ¬ c.length ≤ 6 by omega), Bool.and_false]; rfl) rfl
  (refine Ops.move rfl rfl rfl ?_; refine Ops.lenF rfl rfl (by with_reducible first | exact sFracs.und | exact sRows.und) (List.length_map ..) rfl ?_; refine Ops.ibin igtr rfl rfl rfl rfl ?_; refine Ops.pickF rfl rfl rfl rfl ?_; refine Ops.nil (hK _ _ ?_); clear hK K; refine Fin.then ?_)
  refine St.condP rfl (fun h3 => ?_) (fun h3 => ?_)
  · (refine St.seq ?_; refine St.regionK (fun K hK => ?_); refine Ops.assign rfl rfl rfl ?_; refine Ops.nil (hK _ _ ?_); clear hK K; refine Fin.then ?_; refine St.ret ?_; refine Fin.thenRet ?_)
    refine Fin.ret [_] rfl (AllRes.tmp rfl AllRes.nil) (by rw [e0, decide_eq_false (show ¬ x.length ≤ 6 by omega), Bool.and_false]; rfl) rfl
  have e1 : smallB rs c x = (rs.all (fun r => decide (r.cs.length ≤ 6)) && x.all okRf) := by rw [e0, decide_eq_true (show rs.length ≤ 6 by omega), decide_eq_true (show c.length ≤ 6 by omega), decide_eq_true (show x.length ≤ 6 by omega)]; rfl
  (refine St.skip ?_; refine Fin.then ?_; refine St.seq ?_; refine St.seq ?_; refine St.regionK (fun K hK => ?_); refine Ops.move rfl rfl rfl ?_; refine Ops.lenF rfl rfl (by with_reducible first | exact sFracs.und | exact sRows.und) (List.length_map ..) rfl ?_; refine Ops.move rfl rfl rfl ?_; refine Ops.nil (hK _ _ ?_); clear hK K; refine Fin.then ?_; refine St.block ?_)
  refine St.loop (α := Nat) (fun i => i ≤ rs.length ∧ ∀ j, j < i → (rs.getD j rw0).cs.length ≤ 6)
    (fun i => [(2, .ct (rfsC x)), (24, .ct (rowsC rs)), (25, .ct (intC rs.length)), (26, .ct (intC i))]) (fun _ => []) (fun i => rs.length - i) 0 ⟨Nat.zero_le _, fun j h => absurd h (Nat.not_lt_zero j)⟩ (by exact Entails.of rfl ⟨rfl, rfl, rfl, rfl, trivial⟩) ?_
  intro i ⟨hi, hv⟩
  (try dsimp only at hi hv ⊢)
  (refine St.seq ?_; refine St.regionK (fun K hK => ?_); refine Ops.ibin ilss rfl rfl rfl rfl ?_; refine Ops.nil (hK _ _ ?_); clear hK K; refine Fin.then ?_; refine St.seq ?_)
  refine St.condP rfl (fun h4 => ?_) (fun h4 => ?_)
  · have e2 : (i : Int).toNat = i := Int.toNat_natCast i
    have hlt : i < rs.length := by omega
    have hri := hr _ (getD_mem (z := rw0) hlt)
    (refine St.skip ?_; refine Fin.then ?_; refine St.seq ?_; refine St.block ?_; refine St.seq ?_; refine St.regionK (fun K hK => ?_); refine Ops.idxF rfl rfl rfl (by with_reducible exact sRows) (by omega) (rows_at (by omega) (by omega)) rfl ?_; refine Ops.ldNF (n := 2) rfl rfl rfl (by with_reducible exact lRow) rfl rfl ?_; refine Ops.alloc 0 rfl rfl (by with_reducible exact zvRow) rfl rfl rfl ?_; refine Ops.stWN 2 rfl rfl rfl rfl rfl (by with_reducible exact szRow) rfl rfl ?_; refine Ops.nil (hK _ _ ?_); clear hK K; refine Fin.then ?_; refine St.seq ?_; refine St.regionK (fun K hK => ?_); refine Ops.fldO rfl rfl rfl (by with_reducible first | exact fF0 | exact fF1 | exact fF2 | exact fR0 | exact fR1) rfl ?_; refine Ops.ld1A rfl rfl rfl rfl rfl (by with_reducible first | exact lInt | exact lNat | exact lBool | exact lInts) rfl ?_; refine Ops.lenF rfl rfl (by with_reducible first | exact sNat.und | exact sInts.und) (List.length_map ..) rfl ?_; refine Ops.ibin igtr rfl rfl rfl rfl ?_; refine Ops.nil (hK _ _ ?_); clear hK K; refine Fin.then ?_)
    rw [e2]
    skip
    refine St.condP rfl (fun h5 => ?_) (fun h5 => ?_)
    · (refine St.seq ?_; refine St.regionK (fun K hK => ?_); refine Ops.assign rfl rfl rfl ?_; refine Ops.nil (hK _ _ ?_); clear hK K; refine Fin.then ?_; refine St.ret ?_; refine Fin.blockRet ?_; refine Fin.thenRet ?_; refine Fin.thenRet ?_; refine Fin.blockRet ?_; refine Fin.thenRet ?_)
      refine Fin.ret [_] rfl (AllRes.tmp rfl AllRes.nil) (by
        rw [e1, show rs.all (fun r => decide (r.cs.length ≤ 6)) = false from List.all_eq_false.mpr ⟨_, getD_mem (z := rw0) hlt, by rw [decide_eq_true_eq]; omega⟩]; rfl) rfl
    · (refine St.skip ?_; refine Fin.then ?_; refine St.regionK (fun K hK => ?_); refine Ops.ibin (iadd (by omega) (by omega)) rfl rfl rfl rfl ?_; refine Ops.move rfl rfl rfl ?_; refine Ops.nil (hK _ _ ?_); clear hK K; refine Fin.thenN ?_)
      refine Fin.dropB 0 ?_
      refine Fin.next (i + 1) (by omega) ⟨by omega, ?_⟩ (by exact Entails.of rfl ⟨rfl, rfl, rfl, by simp only [Int.natCast_add]; rfl, trivial⟩)
      intro j hj
      rcases Nat.lt_or_ge j i with h7 | h7
      · exact hv j h7
      · rw [show j = i by omega]; omega
  have hall : rs.all (fun r => decide (r.cs.length ≤ 6)) = true := by
    rw [List.all_eq_true]
    intro r hr
    obtain ⟨j, hj, rfl⟩ := List.getElem_of_mem hr
    have := hv j (by omega)
    rw [List.getD_eq_getElem?_getD, List.getElem?_eq_getElem hj] at this
    simpa using this
  rw [hall, Bool.true_and] at e1
  (refine St.exit ?_; refine Fin.then ?_; refine St.seq ?_; refine St.seq ?_; refine St.regionK (fun K hK => ?_); refine Ops.move rfl rfl rfl ?_; refine Ops.lenF rfl rfl (by with_reducible first | exact sFracs.und | exact sRows.und) (List.length_map ..) rfl ?_; refine Ops.move rfl rfl rfl ?_; refine Ops.nil (hK _ _ ?_); clear hK K; refine Fin.then ?_; refine St.block ?_)
  refine St.loop (α := Nat) (fun i => i ≤ x.length ∧ ∀ j, j < i → okRf (x.getD j rf0) = true)
    (fun i => [(35, .ct (rfsC x)), (36, .ct (intC x.length)), (37, .ct (intC i))]) (fun _ => []) (fun i => x.length - i) 0 ⟨Nat.zero_le _, fun j h => absurd h (Nat.not_lt_zero j)⟩ (by exact Entails.of rfl ⟨rfl, rfl, rfl, trivial⟩) ?_
  intro k ⟨hk, hw⟩
  (try dsimp only at hk hw ⊢)
  (refine St.seq ?_; refine St.regionK (fun K hK => ?_); refine Ops.ibin ilss rfl rfl rfl rfl ?_; refine Ops.nil (hK _ _ ?_); clear hK K; refine Fin.then ?_; refine St.seq ?_)
  refine St.condP rfl (fun h4 => ?_) (fun h4 => ?_)
  · have e2 : (k : Int).toNat = k := Int.toNat_natCast k
    have hlt : k < x.length := by omega
    have hmem := getD_mem (z := rf0) hlt
    obtain ⟨x1, x2⟩ := hx _ hmem
    have bad : okRf (x.getD k rf0) = false → smallB rs c x = false := fun hb => by
      rw [e1]; exact List.all_eq_false.mpr ⟨_, hmem, by rw [hb]; decide⟩
    have good : okRf (x.getD k rf0) = true → ∀ j, j < k + 1 → okRf (x.getD j rf0) = true := fun hb j hj => by
      rcases Nat.lt_or_ge j k with h7 | h7
      · exact hw j h7
      · rw [show j = k by omega]; exact hb
    (refine St.skip ?_; refine Fin.then ?_; refine St.seq ?_; refine St.block ?_; refine St.seq ?_; refine St.regionK (fun K hK => ?_))
    refine Ops.idxF rfl rfl rfl (by with_reducible exact sFracs) (by omega) (rfs_at (by omega) (by omega)) rfl ?_
    rw [e2]
    generalize x.getD k rf0 = f at x1 x2 bad good
    have bd : okRf f = ((decide (f.xs.length ≤ 6) && decide (f.ys.length ≤ 6)) && fvalidL f.neg f.xs f.ys) := rfl
    (refine Ops.ldNF (n := 3) rfl rfl rfl (by with_reducible exact lFrac) rfl rfl ?_; refine Ops.alloc 0 rfl rfl (by with_reducible first | exact zvFrac) rfl rfl rfl ?_; refine Ops.stWN 3 rfl rfl rfl rfl rfl (by with_reducible exact szFrac) rfl rfl ?_; refine Ops.nil (hK _ _ ?_); clear hK K; refine Fin.then ?_; refine St.seq ?_; refine St.regionK (fun K hK => ?_); refine Ops.fldO rfl rfl rfl (by with_reducible first | exact fF0 | exact fF1 | exact fF2 | exact fR0 | exact fR1) rfl ?_; refine Ops.ld1A rfl rfl rfl rfl rfl (by with_reducible first | exact lInt | exact lNat | exact lBool | exact lInts) rfl ?_; refine Ops.lenF rfl rfl (by with_reducible first | exact sNat.und | exact sInts.und) (List.length_map ..) rfl ?_; refine Ops.ibin igtr rfl rfl rfl rfl ?_; refine Ops.move rfl rfl rfl ?_)
    refine Ops.splitP 45 rfl (fun h5 => ?_) (fun h5 => ?_)
    · (refine Ops.skip rfl rfl rfl ?_; refine Ops.skip rfl rfl rfl ?_; refine Ops.skip rfl rfl rfl ?_; refine Ops.skip rfl rfl rfl ?_; refine Ops.pickT rfl rfl rfl rfl ?_; refine Ops.move rfl rfl rfl ?_; refine Ops.skip rfl rfl rfl ?_; refine Ops.skip rfl rfl rfl ?_; refine Ops.skip rfl rfl rfl ?_; refine Ops.pickT rfl rfl rfl rfl ?_; refine Ops.nil (hK _ _ ?_); clear hK K; refine Fin.then ?_; refine St.condT rfl ?_; refine St.seq ?_; refine St.regionK (fun K hK => ?_); refine Ops.assign rfl rfl rfl ?_; refine Ops.nil (hK _ _ ?_); clear hK K; refine Fin.then ?_; refine St.ret ?_; refine Fin.blockRet ?_; refine Fin.thenRet ?_; refine Fin.thenRet ?_; refine Fin.blockRet ?_; refine Fin.thenRet ?_)
      refine Fin.ret [_] rfl (AllRes.tmp rfl AllRes.nil) (by rw [bad (by rw [bd, decide_eq_false (show ¬ f.xs.length ≤ 6 by omega)]; rfl)]; rfl) rfl
    (refine Ops.fldO rfl rfl rfl (by with_reducible first | exact fF0 | exact fF1 | exact fF2 | exact fR0 | exact fR1) rfl ?_; refine Ops.ld1A rfl rfl rfl rfl rfl (by with_reducible first | exact lInt | exact lNat | exact lBool | exact lInts) rfl ?_; refine Ops.lenF rfl rfl (by with_reducible first | exact sNat.und | exact sInts.und) (List.length_map ..) rfl ?_; refine Ops.ibin igtr rfl rfl rfl rfl ?_; refine Ops.pickF rfl rfl rfl rfl ?_; refine Ops.move rfl rfl rfl ?_)
    refine Ops.splitP 51 rfl (fun h6 => ?_) (fun h6 => ?_)
    · (refine Ops.skip rfl rfl rfl ?_; refine Ops.skip rfl rfl rfl ?_; refine Ops.skip rfl rfl rfl ?_; refine Ops.pickT rfl rfl rfl rfl ?_; refine Ops.nil (hK _ _ ?_); clear hK K; refine Fin.then ?_; refine St.condT rfl ?_; refine St.seq ?_; refine St.regionK (fun K hK => ?_); refine Ops.assign rfl rfl rfl ?_; refine Ops.nil (hK _ _ ?_); clear hK K; refine Fin.then ?_; refine St.ret ?_; refine Fin.blockRet ?_; refine Fin.thenRet ?_; refine Fin.thenRet ?_; refine Fin.blockRet ?_; refine Fin.thenRet ?_)
      refine Fin.ret [_] rfl (AllRes.tmp rfl AllRes.nil) (by rw [bad (by rw [bd, decide_eq_false (show ¬ f.ys.length ≤ 6 by omega), Bool.and_false]; rfl)]; rfl) rfl
    have hV := rFValid_list f.neg f.xs f.ys (by omega) (by omega)
    rw [decide_eq_true (show f.xs.length ≤ 6 by omega), decide_eq_true (show f.ys.length ≤ 6 by omega), Bool.and_self, Bool.true_and] at bd
    rw [← bd] at hV
    (refine Ops.ldNO (n := 3) rfl rfl rfl rfl rfl (by with_reducible exact lFrac) rfl ?_)
    cases hg : okRf f with
    | false =>
      rw [hg] at hV
      refine Ops.call gorFValid hV rfl rfl rfl rfl ?_
      (refine Ops.inot rfl rfl rfl ?_; refine Ops.pickF rfl rfl rfl rfl ?_; refine Ops.nil (hK _ _ ?_); clear hK K; refine Fin.then ?_; refine St.condT rfl ?_; refine St.seq ?_; refine St.regionK (fun K hK => ?_); refine Ops.assign rfl rfl rfl ?_; refine Ops.nil (hK _ _ ?_); clear hK K; refine Fin.then ?_; refine St.ret ?_; refine Fin.blockRet ?_; refine Fin.thenRet ?_; refine Fin.thenRet ?_; refine Fin.blockRet ?_; refine Fin.thenRet ?_)
      refine Fin.ret [_] rfl (AllRes.tmp rfl AllRes.nil) (by rw [bad hg]; rfl) rfl
    | true =>
      rw [hg] at hV
      refine Ops.call gorFValid hV rfl rfl rfl rfl ?_
      (refine Ops.inot rfl rfl rfl ?_; refine Ops.pickF rfl rfl rfl rfl ?_; refine Ops.nil (hK _ _ ?_); clear hK K; refine Fin.then ?_; refine St.condF rfl ?_; refine St.skip ?_; refine Fin.then ?_; refine St.regionK (fun K hK => ?_); refine Ops.ibin (iadd (by omega) (by omega)) rfl rfl rfl rfl ?_; refine Ops.move rfl rfl rfl ?_; refine Ops.nil (hK _ _ ?_); clear hK K; refine Fin.thenN ?_)
      refine Fin.dropB 0 ?_
      refine Fin.next (k + 1) (by omega) ⟨by omega, good hg⟩ (by exact Entails.of rfl ⟨rfl, rfl, by simp only [Int.natCast_add]; rfl, trivial⟩)
  · (refine St.exit ?_; refine Fin.then ?_; refine St.seq ?_; refine St.regionK (fun K hK => ?_); refine Ops.assign rfl rfl rfl ?_; refine Ops.nil (hK _ _ ?_); clear hK K; refine Fin.then ?_; refine St.ret ?_)
    refine Fin.ret [_] rfl (AllRes.tmp rfl AllRes.nil) (by
      rw [e1, show x.all okRf = true from List.all_eq_true.mpr fun f hf => by
        obtain ⟨j, hj, rfl⟩ := List.getElem_of_mem hf
        have := hw j (by omega)
        rw [List.getD_eq_getElem?_getD, List.getElem?_eq_getElem hj] at this
        simpa using this]; rfl) rfl
end Go.Proofs.YtdhmbgogmoaofaaGreat
namespace Go.Proofs.YtdhmbgogmoaofaaGreat
open Go.Own Go.Limbs
attribute [local irreducible] St Ops Go.Own.Fin Ok OkB OkN wpA
theorem rFrom_tw (a b : Int) (ha : -9223372036854775808 ≤ a ∧ a ≤ 9223372036854775807) (hb : 0 ≤ b ∧ b < 4) : ∃ e : Int, 1 ≤ e ∧ e ≤ 12 ∧ Ok Tryz.prog 57 [intC a, intC (1 + b)] (.fr (tupT [twC (a * e), intC 0])) := by
  have hR := rFrom_ok a (1 + b) ha.1 ha.2 (by omega) (by omega) (by omega)
  have key : ∀ d e : Nat, d * e = 12 → 1 + b = (d : Int) → 1 ≤ (e : Int) → (e : Int) ≤ 12 → ∃ e : Int, 1 ≤ e ∧ e ≤ 12 ∧ Ok Tryz.prog 57 [intC a, intC (1 + b)] (.fr (tupT [twC (a * e), intC 0])) := fun d e h1 h2 h3 h4 => by
    refine ⟨(e : Int), h3, h4, ?_⟩
    have h5 : Rat.divInt a (1 + b) = tw (a * e) := by rw [h2]; exact tw_div a d e h1
    rw [h5] at hR
    exact hR
  rcases (by omega : 1 + b = 1 ∨ 1 + b = 2 ∨ 1 + b = 3 ∨ 1 + b = 4) with h | h | h | h
  · exact key 1 12 rfl h (by decide) (by decide)
  · exact key 2 6 rfl h (by decide) (by decide)
  · exact key 3 4 rfl h (by decide) (by decide)
  · exact key 4 3 rfl h (by decide) (by decide)
set_option maxHeartbeats 4000000 in
theorem Fractions_ok (bs : List Int) (p : Nat) (n : Int) (h0 : 0 ≤ n) (h1 : n ≤ 10) (hb : Bytes bs) :
    OkB Tryz.prog 15 82 (codes bs p) [intC n] (fun q : List Int × Nat => (q.1.length : Int) = n ∧ ∀ y ∈ q.1, 0 ≤ y ∧ y ≤ 132) (fun q => twsC q.1) (fun q => codes bs q.2) := by
  refine OkB.enter Tryz.func15 rfl _ Tryz.ntmps15 rfl ?_
  intro S w g
  (refine St.seq ?_; refine St.regionK (fun K hK => ?_); refine Ops.assign rfl rfl rfl ?_; refine Ops.nil (hK _ _ ?_); clear hK K; refine Fin.then ?_; refine St.seq ?_; refine St.regionK (fun K hK => ?_); refine Ops.assign rfl rfl rfl ?_; refine Ops.nil (hK _ _ ?_); clear hK K; refine Fin.then ?_; refine St.seq ?_; refine St.block ?_)
  refine St.nilRow 5 1 38 3 rfl rfl rfl ?_
  refine St.loop (α := Int × List Int × Nat) (fun x => 0 ≤ x.1 ∧ x.2.1.length + x.1 = n ∧ ∀ y ∈ x.2.1, 0 ≤ y ∧ y ≤ 132)
    (fun x => [(0, .own 0), (1, .ct (intC x.1)), (5, .own 1)]) (fun x => [(1, .row 38 3 (frs x.2.1)), (0, .box 82 (codes bs x.2.2))]) (fun x => x.1.toNat) (n, [], p) ⟨h0, by simp, by simp⟩ (by exact Entails.of rfl ⟨rfl, rfl, rfl, trivial⟩) ?_
  rintro ⟨m, ys, p1⟩ ⟨hm0, hml, hys⟩
  dsimp only at hm0 hml hys ⊢
  (refine St.seq ?_; refine St.seq ?_; refine St.regionK (fun K hK => ?_); refine Ops.move rfl rfl rfl ?_; refine Ops.ibin igtr rfl rfl rfl rfl ?_; refine Ops.nil (hK _ _ ?_); clear hK K; refine Fin.then ?_)
  refine St.condP rfl (fun hm => ?_) (fun hm => ?_)
  · (refine St.skip ?_; refine Fin.then ?_; refine St.seq ?_; refine St.block ?_; refine St.seq ?_; refine St.regionK (fun K hK => ?_); refine Ops.move rfl rfl rfl ?_)
    refine Ops.callB goNext (Next_ok bs p1 12 (by decide) (by decide) hb) rfl rfl rfl rfl rfl (fun q hq => ?_)
    obtain ⟨a, p2⟩ := q
    dsimp only at hq ⊢
    (refine Ops.move rfl rfl rfl ?_)
    refine Ops.callB goNext (Next_ok bs p2 4 (by decide) (by decide) hb) rfl rfl rfl rfl rfl (fun q hq1 => ?_)
    obtain ⟨b, p3⟩ := q
    dsimp only at hq1 ⊢
    obtain ⟨e, he1, he2, hF⟩ := rFrom_tw a b ⟨by omega, by omega⟩ hq1
    have hae : 0 ≤ a * e ∧ a * e ≤ 132 := ⟨Int.mul_nonneg (by omega) (by omega), by
      have h1 := Int.mul_le_mul_of_nonneg_right (show a ≤ 11 by omega) (show 0 ≤ e by omega)
      omega⟩
    generalize a * e = y at hF hae
    (refine Ops.ibin (iadd (by omega) (by omega)) rfl rfl rfl rfl ?_)
    refine Ops.call gorFrom hF rfl rfl rfl rfl ?_
    (refine Ops.move rfl rfl rfl ?_; refine Ops.extract rfl rfl rfl rfl ?_; refine Ops.extract rfl rfl rfl rfl ?_; refine Ops.alloc 2 rfl rfl (by with_reducible first | exact zvFrac) rfl rfl rfl ?_; refine Ops.stWN 3 rfl rfl rfl rfl rfl (by with_reducible exact szFrac) rfl rfl ?_; refine Ops.assign rfl rfl rfl ?_; refine Ops.nil (hK _ _ ?_); clear hK K; refine Fin.then ?_; refine St.regionK (fun K hK => ?_); refine Ops.move rfl rfl rfl ?_; refine Ops.ldNO (n := 3) rfl rfl rfl rfl rfl (by with_reducible exact lFrac) rfl ?_)
    refine Ops.litN (n := 3) rfl rfl (by with_reducible exact sFracs) rfl rfl (by decide) rfl ?_
    refine Ops.append1 ys.length (frs (ys ++ [y])) rfl rfl rfl rfl (by with_reducible exact sFracs) (frs_len ys) rfl (by omega) (by omega) (frs_snoc ys y) rfl ?_
    (refine Ops.assign rfl rfl rfl ?_; refine Ops.nil (hK _ _ ?_); clear hK K; refine Fin.then ?_; refine St.regionK (fun K hK => ?_); refine Ops.move rfl rfl rfl ?_; refine Ops.ibin (isub (by omega) (by omega)) rfl rfl rfl rfl ?_; refine Ops.assign rfl rfl rfl ?_; refine Ops.nil (hK _ _ ?_); clear hK K; refine Fin.thenN ?_)
    refine Fin.dropB 2 ?_
    refine Fin.next (m - 1, ys ++ [y], p3) (by dsimp only; omega) ⟨by dsimp only; omega, by simp; omega, mem_snoc hys hae⟩ (by exact Entails.of rfl ⟨rfl, rfl, rfl, trivial⟩)
  · refine St.frz 1 _ rfl (frs_frozen _ _) (okFix_lent rfl) ?_
    (refine St.exit ?_; refine Fin.then ?_; refine St.seq ?_; refine St.regionK (fun K hK => ?_); refine Ops.move rfl rfl rfl ?_; refine Ops.assign rfl rfl rfl ?_; refine Ops.nil (hK _ _ ?_); clear hK K; refine Fin.then ?_; refine St.ret ?_)
    refine Fin.retB (ys, p1) [_] rfl (AllRes.tmp rfl AllRes.nil) rfl rfl ⟨by show (ys.length : Int) = n; omega, hys⟩
theorem goFractions : InGo Tryz.prog 15 := InGo.of Tryz.func15 rfl (by decide)
end Go.Proofs.YtdhmbgogmoaofaaGreat
namespace Go.Proofs.YtdhmbgogmoaofaaGreat
open Go.Own Go.Limbs
attribute [local irreducible] St Ops Go.Own.Fin Ok OkB OkN OkM wpA tf
theorem sFracss : SlcT Tryz.prog 34 25 1 24 (.slice none 0 0) := SlcT.of Tryz.underlying34 (by kernel_rfl) rfl (by decide)
theorem sIntss : SlcT Tryz.prog 35 24 1 24 (.slice none 0 0) := SlcT.of Tryz.underlying35 (by kernel_rfl) rfl (by decide)
theorem lFracs1 : Ld1 Tryz.prog 25 := Ld1.of _ Tryz.underlying25 rfl
theorem tf_f6 {m : Int} (h0 : 0 ≤ m) (h1 : m ≤ 132) : F6 (tf m) := by
  have h2 := tf_num_le m
  have h3 := tf_den m
  refine ⟨by omega, by omega, h3.1, fun h => ?_⟩
  rw [tf_neg, decide_eq_true_eq] at h
  omega
theorem Fractions_fr (bs : List Int) (p : Nat) (n : Int) (h0 : 0 ≤ n) (h1 : n ≤ 10) (hb : Bytes bs) :
    OkB Tryz.prog 15 82 (codes bs p) [intC n] (fun q : List Int × Nat => (q.1.length : Int) = n ∧ ∀ y ∈ q.1, 0 ≤ y ∧ y ≤ 132) (fun q => fracsC (q.1.map tf)) (fun q => codes bs q.2) := by
  have h := Fractions_ok bs p n h0 h1 hb
  rwa [show (fun q : List Int × Nat => twsC q.1) = fun q => fracsC (q.1.map tf) from funext fun q => twsC_eq q.1] at h
theorem tfs_f6 {ms : List Int} (h : ∀ y ∈ ms, 0 ≤ y ∧ y ≤ 132) : ∀ f ∈ ms.map tf, F6 f := fun f hf => by
  obtain ⟨m, hm, rfl⟩ := List.mem_map.1 hf
  exact tf_f6 (h m hm).1 (h m hm).2
set_option maxHeartbeats 8000000 in
theorem LinearPoints_ok (bs : List Int) (n : Int) (raw : List Rw) (goal : List Int) (x : List Rf) (hb : ∀ b ∈ bs, 0 ≤ b ∧ b < 256) (hrl : raw.length ≤ 9223372036854775807) (hr : ∀ r ∈ raw, r.cs.length ≤ 9223372036854775807) (hcl : goal.length ≤ 9223372036854775807) (hg : ∀ y ∈ goal, -9223372036854775808 ≤ y ∧ y ≤ 9223372036854775807)
    (hxl : x.length ≤ 9223372036854775807) (hx : ∀ f ∈ x, f.xs.length ≤ 9223372036854775807 ∧ f.ys.length ≤ 9223372036854775807) :
    Ok Tryz.prog 3 [bytesC bs, intC n, rowsC raw, intsC goal, rfsC x] (boolC true) := by
  have hSm := small34_ok raw goal x hrl hr hcl hxl hx
  cases hsm : smallB raw goal x with
  | false =>
    rw [hsm] at hSm
    refine Ok.enter Tryz.func3 rfl _ Tryz.ntmps3 rfl ?_
    intro S w
    (refine St.seq ?_; refine St.regionK (fun K hK => ?_); refine Ops.assign rfl rfl rfl ?_; refine Ops.nil (hK _ _ ?_); clear hK K; refine Fin.then ?_; refine St.seq ?_; refine St.seq ?_; refine St.regionK (fun K hK => ?_))
    refine Ops.call goawake34 awake34_ok rfl rfl rfl rfl ?_
    (refine Ops.inot rfl rfl rfl ?_; refine Ops.move rfl rfl rfl ?_; refine Ops.move rfl rfl rfl ?_; refine Ops.move rfl rfl rfl ?_; refine Ops.move rfl rfl rfl ?_)
    refine Ops.call gosmall34 hSm rfl rfl rfl rfl ?_
    (refine Ops.inot rfl rfl rfl ?_; refine Ops.pickF rfl rfl rfl rfl ?_; refine Ops.nil (hK _ _ ?_); clear hK K; refine Fin.then ?_; refine St.condT rfl ?_; refine St.seq ?_; refine St.regionK (fun K hK => ?_))
    refine Ops.call goawake34 awake34_ok rfl rfl rfl rfl ?_
    (refine Ops.assign rfl rfl rfl ?_; refine Ops.nil (hK _ _ ?_); clear hK K; refine Fin.then ?_; refine St.ret ?_; refine Fin.thenRet ?_)
    refine Fin.ret [_] rfl (AllRes.tmp rfl AllRes.nil) rfl rfl
  | true =>
    rw [hsm] at hSm
    unfold smallB at hsm
    simp only [Bool.and_eq_true, decide_eq_true_eq, List.all_eq_true] at hsm
    obtain ⟨⟨⟨s1, s2⟩, s3⟩, s4, s5⟩ := hsm
    obtain ⟨xs, e1, e2, hxs⟩ := okRf_all (List.all_eq_true.mpr s5)
    rw [show rfsC x = fracsC xs from by show CT.fr (sliceT 3 _) = CT.fr (sliceT 3 _); rw [e1]] at hSm ⊢
    have hxs6 : xs.length ≤ 6 := by omega
    clear hx s5 e1 e2
    have hr : ∀ r ∈ raw, r.cs.length < 4611686018427387904 := fun r hm => by have := s4 r hm; omega
    have hrl : raw.length < 4611686018427387904 := by omega
    refine Ok.enter Tryz.func3 rfl _ Tryz.ntmps3 rfl ?_
    intro S w
    have hB : Bytes (bs.take 400) := ⟨fun b h => (hb b (List.mem_of_mem_take h)).1, fun b h => (hb b (List.mem_of_mem_take h)).2, by simp; omega⟩
    have hRoll := Roll_ok bs
    generalize bs.take 400 = B0 at hB hRoll
    (refine St.seq ?_; refine St.regionK (fun K hK => ?_); refine Ops.assign rfl rfl rfl ?_; refine Ops.nil (hK _ _ ?_); clear hK K; refine Fin.then ?_; refine St.seq ?_; refine St.seq ?_; refine St.regionK (fun K hK => ?_))
    refine Ops.call goawake34 awake34_ok rfl rfl rfl rfl ?_
    (refine Ops.inot rfl rfl rfl ?_; refine Ops.move rfl rfl rfl ?_; refine Ops.move rfl rfl rfl ?_; refine Ops.move rfl rfl rfl ?_; refine Ops.move rfl rfl rfl ?_)
    refine Ops.call gosmall34 hSm rfl rfl rfl rfl ?_
    (refine Ops.inot rfl rfl rfl ?_; refine Ops.pickF rfl rfl rfl rfl ?_; refine Ops.nil (hK _ _ ?_); clear hK K; refine Fin.then ?_; refine St.condF rfl ?_; refine St.skip ?_; refine Fin.then ?_; refine St.seq ?_; refine St.regionK (fun K hK => ?_); refine Ops.move rfl rfl rfl ?_)
    refine Ops.callN 0 goRoll hRoll rfl rfl rfl rfl rfl rfl ?_
    (refine Ops.assign rfl rfl rfl ?_; refine Ops.nil (hK _ _ ?_); clear hK K; refine Fin.then ?_; refine St.seq ?_; refine St.regionK (fun K hK => ?_); refine Ops.move rfl rfl rfl ?_)
    refine Ops.callB goProgram (Program_ok B0 0 hB) rfl rfl rfl rfl rfl (fun q hq => ?_)
    obtain ⟨k, rs, g, p1⟩ := q
    obtain ⟨n0, n1, rl, hrs, cl, hc⟩ := hq
    dsimp only at n0 n1 rl hrs cl hc ⊢
    (refine Ops.move rfl rfl rfl ?_; refine Ops.extract rfl rfl rfl rfl ?_; refine Ops.extract rfl rfl rfl rfl ?_; refine Ops.extract rfl rfl rfl rfl ?_; refine Ops.assign rfl rfl rfl ?_; refine Ops.assign rfl rfl rfl ?_; refine Ops.assign rfl rfl rfl ?_; refine Ops.nil (hK _ _ ?_); clear hK K; refine Fin.then ?_; refine St.seq ?_; refine St.regionK (fun K hK => ?_); refine Ops.move rfl rfl rfl ?_; refine Ops.move rfl rfl rfl ?_)
    refine Ops.callB goFractions (Fractions_fr B0 p1 k (by omega) (by omega) hB) rfl rfl rfl rfl rfl (fun q hq => ?_)
    obtain ⟨ms1, p2⟩ := q
    obtain ⟨hm1, hm1'⟩ := hq
    dsimp only at hm1 hm1' ⊢
    (refine Ops.assign rfl rfl rfl ?_; refine Ops.nil (hK _ _ ?_); clear hK K; refine Fin.then ?_; refine St.seq ?_; refine St.seq ?_; refine St.regionK (fun K hK => ?_); refine Ops.move rfl rfl rfl ?_; refine Ops.move rfl rfl rfl ?_; refine Ops.move rfl rfl rfl ?_; refine Ops.move rfl rfl rfl ?_)
    refine Ops.callB goNext (Next_ok B0 p2 6 (by decide) (by decide) hB) rfl rfl rfl rfl rfl (fun q hq => ?_)
    obtain ⟨m, p3⟩ := q
    dsimp only at hq ⊢
    refine Ops.callB goFractions (Fractions_fr B0 p3 m (by omega) (by omega) hB) rfl rfl rfl rfl rfl (fun q hq2 => ?_)
    obtain ⟨ms2, p4⟩ := q
    obtain ⟨hm2, hm2'⟩ := hq2
    dsimp only at hm2 hm2' ⊢
    have hY : ∀ y ∈ [xs, ms1.map tf, ms2.map tf], y.length ≤ 6 ∧ ∀ f ∈ y, F6 f := by
      intro y hy
      simp only [List.mem_cons, List.not_mem_nil, or_false] at hy
      rcases hy with rfl | rfl | rfl
      · exact ⟨hxs6, hxs⟩
      · exact ⟨by rw [List.length_map]; omega, tfs_f6 hm1'⟩
      · exact ⟨by rw [List.length_map]; omega, tfs_f6 hm2'⟩
    have hQ : ∀ q ∈ [g, goal], q.length ≤ 1000 ∧ ∀ y ∈ q, -9223372036854775808 ≤ y ∧ y ≤ 9223372036854775807 := by
      intro q hq
      simp only [List.mem_cons, List.not_mem_nil, or_false] at hq
      rcases hq with rfl | rfl
      · exact ⟨by omega, fun y hy => by have := hc y hy; omega⟩
      · exact ⟨by omega, hg⟩
    refine Ops.lit (m := 3) (n := 1) (cs := [fracsC xs, fracsC (ms1.map tf), fracsC (ms2.map tf)]) rfl rfl (by with_reducible exact sFracss) (.one rfl rfl rfl rfl (.one rfl rfl rfl rfl (.one rfl rfl rfl rfl .nil))) (by decide) rfl ?_
    refine Ops.lenF (m := 3) rfl rfl (by with_reducible exact sFracss.und) rfl rfl ?_
    (refine Ops.move rfl rfl rfl ?_; refine Ops.nil (hK _ _ ?_); clear hK K; refine Fin.then ?_; refine St.block ?_)
    generalize hYs : [xs, ms1.map tf, ms2.map tf] = Ys at hY
    have hYl : Ys.length = 3 := by rw [← hYs]; rfl
    have hC : chunk 1 3 [fracsC xs, fracsC (ms1.map tf), fracsC (ms2.map tf)] = Ys.map fun y => [fracsC y] := by rw [← hYs]; rfl
    rw [hC]
    generalize hQs : [g, goal] = Qs at hQ
    have hQl : Qs.length = 2 := by rw [← hQs]; rfl
    have hCQ : chunk 1 2 [intsC g, intsC goal] = Qs.map fun q => [intsC q] := by rw [← hQs]; rfl
    refine St.loop (α := Nat) (fun j => j ≤ 3)
      (fun j => [(1, .ct (intC n)), (2, .ct (rowsC raw)), (3, .ct (intsC goal)), (12, .ct (intC k)), (13, .ct (rowsC rs)), (14, .ct (intsC g)), (51, .ct (.fr (sliceT 1 (Ys.map fun y => [fracsC y])))), (52, .ct (intC 3)), (53, .ct (intC j))])
      (fun _ => [(0, .box 82 (codes B0 p4))]) (fun j => 3 - j) 0 (Nat.zero_le _) (by exact Entails.of rfl ⟨rfl, rfl, rfl, rfl, rfl, rfl, rfl, rfl, rfl, trivial⟩) ?_
    intro j hj
    (try dsimp only at hj ⊢)
    (refine St.seq ?_; refine St.regionK (fun K hK => ?_); refine Ops.ibin ilss rfl rfl rfl rfl ?_; refine Ops.nil (hK _ _ ?_); clear hK K; refine Fin.then ?_; refine St.seq ?_)
    refine St.condP rfl (fun h4 => ?_) (fun h4 => ?_)
    · have e2 : (j : Int).toNat = j := Int.toNat_natCast j
      have hlt : j < Ys.length := by omega
      obtain ⟨y1, y2⟩ := hY _ (getD_mem (z := []) hlt)
      (refine St.skip ?_; refine Fin.then ?_; refine St.seq ?_; refine St.block ?_; refine St.seq ?_; refine St.regionK (fun K hK => ?_))
      refine Ops.idxF rfl rfl rfl (by with_reducible exact sFracss) (by omega) (map_at (fun y => [fracsC y]) [] (by omega) (by omega)) rfl ?_
      rw [e2]
      generalize Ys.getD j [] = y at y1 y2
      have hS1 := Satisfies_gen k rs y (by omega) (fun r hr => by have := (hrs r hr).len; omega) (by omega) (fun f hf => (y2 f hf).vf) (fun hv _ => sfit6 k rs y hv y1 y2)
      have hS2 := rSatisfies_gen k rs y (by omega) (fun r hr => by have := (hrs r hr).len; omega) (by omega) (fun f hf => (y2 f hf).vf) (fun hv _ => sfit6 k rs y hv y1 y2)
      have hS3 := Satisfies_gen n raw y hrl hr (by omega) (fun f hf => (y2 f hf).vf) (fun hv _ => sfit6 n raw y hv y1 y2)
      have hS4 := rSatisfies_gen n raw y hrl hr (by omega) (fun f hf => (y2 f hf).vf) (fun hv _ => sfit6 n raw y hv y1 y2)
      generalize satB k rs y = b1 at hS1 hS2
      generalize satB n raw y = b2 at hS3 hS4
      refine Ops.ld1F rfl rfl rfl (by with_reducible exact lFracs1) rfl ?_
      (refine Ops.assign rfl rfl rfl ?_; refine Ops.nil (hK _ _ ?_); clear hK K; refine Fin.then ?_; refine St.seq ?_; refine St.seq ?_; refine St.regionK (fun K hK => ?_); refine Ops.move rfl rfl rfl ?_; refine Ops.move rfl rfl rfl ?_)
      refine Ops.lit (m := 2) (n := 1) (cs := [intsC g, intsC goal]) rfl rfl (by with_reducible exact sIntss) (.one rfl rfl rfl rfl (.one rfl rfl rfl rfl .nil)) (by decide) rfl ?_
      refine Ops.lenF (m := 2) rfl rfl (by with_reducible exact sIntss.und) rfl rfl ?_
      (refine Ops.move rfl rfl rfl ?_; refine Ops.nil (hK _ _ ?_); clear hK K; refine Fin.then ?_; refine St.block ?_)
      rw [hCQ]
      refine St.loop (α := Nat) (fun i => i ≤ 2)
        (fun i => [(1, .ct (intC n)), (2, .ct (rowsC raw)), (3, .ct (intsC goal)), (12, .ct (intC k)), (13, .ct (rowsC rs)), (14, .ct (intsC g)), (51, .ct (.fr (sliceT 1 (Ys.map fun y => [fracsC y])))), (52, .ct (intC 3)), (53, .ct (intC j)), (17, .ct (fracsC y)), (59, .ct (.fr (sliceT 1 (Qs.map fun q => [intsC q])))), (60, .ct (intC 2)), (61, .ct (intC i))])
        (fun _ => [(0, .box 82 (codes B0 p4))]) (fun i => 2 - i) 0 (Nat.zero_le _) (by exact Entails.of rfl ⟨rfl, rfl, rfl, rfl, rfl, rfl, rfl, rfl, rfl, rfl, rfl, rfl, rfl, trivial⟩) ?_
      intro i hi
      (try dsimp only at hi ⊢)
      (refine St.seq ?_; refine St.regionK (fun K hK => ?_); refine Ops.ibin ilss rfl rfl rfl rfl ?_; refine Ops.nil (hK _ _ ?_); clear hK K; refine Fin.then ?_; refine St.seq ?_)
      refine St.condP rfl (fun h5 => ?_) (fun h5 => ?_)
      · have e3 : (i : Int).toNat = i := Int.toNat_natCast i
        have hlt2 : i < Qs.length := by omega
        obtain ⟨q1, q2⟩ := hQ _ (getD_mem (z := []) hlt2)
        (refine St.skip ?_; refine Fin.then ?_; refine St.seq ?_; refine St.block ?_; refine St.seq ?_; refine St.regionK (fun K hK => ?_))
        refine Ops.idxF rfl rfl rfl (by with_reducible exact sIntss) (by omega) (map_at (fun q => [intsC q]) [] (by omega) (by omega)) rfl ?_
        rw [e3]
        generalize Qs.getD i [] = q at q1 q2
        obtain ⟨hV, l1, l2⟩ := vfit6 q y q1 (fun v => by
          rcases Nat.lt_or_ge v q.length with h6 | h6
          · exact q2 _ (getD_mem (z := 0) h6)
          · rw [getD_ge h6]; decide) y1 y2
        have hV1 := Value_gen q y hV
        have hV2 := rValue_gen q y hV
        have hE := Equal_refl (ofQ (vsum q y)) (by omega) (by omega)
        generalize vsum q y = v at hV1 hV2 hE
        refine Ops.ld1F rfl rfl rfl (by with_reducible exact lInts) rfl ?_
        (refine Ops.assign rfl rfl rfl ?_; refine Ops.nil (hK _ _ ?_); clear hK K; refine Fin.then ?_; refine St.seq ?_; refine St.regionK (fun K hK => ?_); refine Ops.move rfl rfl rfl ?_; refine Ops.move rfl rfl rfl ?_)
        refine Ops.call goValue hV1 rfl rfl rfl rfl ?_
        (refine Ops.move rfl rfl rfl ?_; refine Ops.extract rfl rfl rfl rfl ?_; refine Ops.extract rfl rfl rfl rfl ?_; refine Ops.alloc 1 rfl rfl (by with_reducible first | exact zvFrac) rfl rfl rfl ?_; refine Ops.stWN 3 rfl rfl rfl rfl rfl (by with_reducible exact szFrac) rfl rfl ?_; refine Ops.assign rfl rfl rfl ?_; refine Ops.nil (hK _ _ ?_); clear hK K; refine Fin.then ?_; refine St.seq ?_; refine St.regionK (fun K hK => ?_); refine Ops.move rfl rfl rfl ?_; refine Ops.move rfl rfl rfl ?_)
        refine Ops.call gorValue hV2 rfl rfl rfl rfl ?_
        (refine Ops.move rfl rfl rfl ?_; refine Ops.extract rfl rfl rfl rfl ?_; refine Ops.extract rfl rfl rfl rfl ?_; refine Ops.alloc 2 rfl rfl (by with_reducible first | exact zvFrac) rfl rfl rfl ?_; refine Ops.stWN 3 rfl rfl rfl rfl rfl (by with_reducible exact szFrac) rfl rfl ?_; refine Ops.assign rfl rfl rfl ?_; refine Ops.nil (hK _ _ ?_); clear hK K; refine Fin.then ?_; refine St.seq ?_; refine St.regionK (fun K hK => ?_); refine Ops.ldNO (n := 3) rfl rfl rfl rfl rfl (by with_reducible exact lFrac) rfl ?_; refine Ops.ldNO (n := 3) rfl rfl rfl rfl rfl (by with_reducible exact lFrac) rfl ?_)
        refine Ops.call goEqual hE rfl rfl rfl rfl ?_
        (refine Ops.inot rfl rfl rfl ?_; refine Ops.move rfl rfl rfl ?_; refine Ops.move rfl rfl rfl ?_; refine Ops.move rfl rfl rfl ?_; refine Ops.ibin ineq rfl rfl rfl rfl ?_; refine Ops.pickF rfl rfl rfl rfl ?_; refine Ops.nil (hK _ _ ?_); clear hK K; refine Fin.then ?_; refine St.condF rfl ?_; refine St.skip ?_; refine Fin.then ?_; refine St.regionK (fun K hK => ?_); refine Ops.ibin (iadd (by omega) (by omega)) rfl rfl rfl rfl ?_; refine Ops.move rfl rfl rfl ?_; refine Ops.nil (hK _ _ ?_); clear hK K; refine Fin.thenN ?_)
        refine Fin.dropB 2 ?_
        refine Fin.dropB 1 ?_
        refine Fin.next (i + 1) (by omega) (by omega) (by exact Entails.of rfl ⟨rfl, rfl, rfl, rfl, rfl, rfl, rfl, rfl, rfl, rfl, rfl, rfl, by simp only [Int.natCast_add]; rfl, trivial⟩)
      · (refine St.exit ?_; refine Fin.then ?_; refine St.seq ?_; refine St.regionK (fun K hK => ?_); refine Ops.move rfl rfl rfl ?_; refine Ops.move rfl rfl rfl ?_; refine Ops.move rfl rfl rfl ?_)
        refine Ops.call goSatisfies hS1 rfl rfl rfl rfl ?_
        (refine Ops.move rfl rfl rfl ?_; refine Ops.move rfl rfl rfl ?_; refine Ops.move rfl rfl rfl ?_)
        refine Ops.call gorSatisfies hS2 rfl rfl rfl rfl ?_
        refine Ops.bne rfl rfl rfl (by with_reducible exact uBool) rfl ?_
        (refine Ops.move rfl rfl rfl ?_)
        refine Ops.splitP 96 rfl (fun h => absurd rfl h) (fun _ => ?_)
        (refine Ops.move rfl rfl rfl ?_; refine Ops.move rfl rfl rfl ?_; refine Ops.move rfl rfl rfl ?_)
        refine Ops.call goSatisfies hS3 rfl rfl rfl rfl ?_
        (refine Ops.move rfl rfl rfl ?_; refine Ops.move rfl rfl rfl ?_; refine Ops.move rfl rfl rfl ?_)
        refine Ops.call gorSatisfies hS4 rfl rfl rfl rfl ?_
        refine Ops.bne rfl rfl rfl (by with_reducible exact uBool) rfl ?_
        (refine Ops.pickF rfl rfl rfl rfl ?_; refine Ops.nil (hK _ _ ?_); clear hK K; refine Fin.then ?_)
        refine St.condP rfl (fun h => absurd rfl h) (fun _ => ?_)
        (refine St.skip ?_; refine Fin.then ?_; refine St.regionK (fun K hK => ?_); refine Ops.ibin (iadd (by omega) (by omega)) rfl rfl rfl rfl ?_; refine Ops.move rfl rfl rfl ?_; refine Ops.nil (hK _ _ ?_); clear hK K; refine Fin.thenN ?_)
        refine Fin.next (j + 1) (by omega) (by omega) (by exact Entails.of rfl ⟨rfl, rfl, rfl, rfl, rfl, rfl, rfl, rfl, by simp only [Int.natCast_add]; rfl, trivial⟩)
    · (refine St.exit ?_; refine Fin.then ?_; refine St.seq ?_; refine St.regionK (fun K hK => ?_); refine Ops.assign rfl rfl rfl ?_; refine Ops.nil (hK _ _ ?_); clear hK K; refine Fin.then ?_; refine St.ret ?_)
      refine Fin.ret [_] rfl (AllRes.tmp rfl AllRes.nil) rfl rfl
end Go.Proofs.YtdhmbgogmoaofaaGreat
namespace Go.Proofs.YtdhmbgogmoaofaaGreat
open Go.Own Go.Limbs
section
variable {H : Type} {enc : TypeId × Value → H} {P : Program} {w : World} {base : Nat} {spare : Nat → Bool} {held : Bool}
theorem slice_in {α : Type} {t e : TypeId} {n fuel : Nat} {cs0 : List Value} {x : DataW H × List MemPlace} (ht : P.underlying t = some (.slice e)) (hn : P.cellsOf e = n) (hn0 : 0 < n) (f : α → List CT) (hf : ∀ z, (f z).length = n) (good : α → Prop)
    (hE : ∀ m cs y, DataW.trod enc P w base spare held m e cs = some y → cs.length = n → ∃ z, cells (fun _ => True) w (f z) cs ∧ good z)
    (h : DataW.trod enc P w base spare held fuel t cs0 = some x) : ∃ (v : Value) (zs : List α), cs0 = [v] ∧ zs.length ≤ 9223372036854775807 ∧ (∀ z ∈ zs, good z) ∧ (CT.fr (sliceT n (zs.map f))).p (fun _ => True) w v := by
  rcases DataW.trod_slice ht h with ⟨h0, _⟩ | ⟨a, len, cap, elems, rest, m, _, rfl, rfl, _, hl, hm, hlen, hel, _⟩
  · exact ⟨_, [], h0, Nat.zero_le _, (fun z hz => nomatch hz), nil_is n _ w⟩
  rw [hn] at hel
  have key : ∀ k, k ≤ len → ∃ (zs : List α) (vs : List Value), zs.length = k ∧ (∀ z ∈ zs, good z) ∧ cells (fun _ => True) w (zs.map f).flatten vs ∧ vs.length = k * n ∧ ∀ i u, vs[i]? = some u → w.cell? (a.add i) = some u := by
    intro k
    induction k with
    | zero => intro _; exact ⟨[], [], rfl, (fun z hz => nomatch hz), trivial, (Nat.zero_mul n).symm, fun i u hu => by simp at hu⟩
    | succ k ih =>
      intro hk
      obtain ⟨zs, vs, e1, e2, e3, e4, e5⟩ := ih (by omega)
      have h1 := hel k (by omega)
      rw [List.getElem?_eq_getElem (show k < elems.length by omega), Option.bind_eq_some_iff] at h1
      obtain ⟨cs, h2, h3⟩ := h1
      obtain ⟨_, h4, h5⟩ := World.cells?_some h2
      obtain ⟨z, h6, h7⟩ := hE _ _ _ h3 h4
      refine ⟨zs ++ [z], vs ++ cs, by simp [e1], ?_, ?_, by rw [List.length_append, e4, h4, Nat.succ_mul], ?_⟩
      · intro y hy
        rcases List.mem_append.1 hy with hy | hy
        · exact e2 y hy
        · rw [List.mem_singleton.1 hy]; exact h7
      · rw [List.map_append, List.flatten_append]
        refine cells.append e3 ?_
        simpa using h6
      · intro i u hu
        rcases Nat.lt_or_ge i (k * n) with hi | hi
        · rw [List.getElem?_append_left (by omega)] at hu
          exact e5 i u hu
        · rw [List.getElem?_append_right (by omega), e4] at hu
          have hlt : i - k * n < n := by
            have := (List.getElem?_eq_some_iff.1 hu).1
            omega
          have := h5 (i - k * n) hlt
          rw [Addr.add_add, show k * n + (i - k * n) = i by omega] at this
          rw [this, hu]
  obtain ⟨zs, vs, e1, e2, e3, e4, e5⟩ := key len (Nat.le_refl _)
  have hmx : maxLen = 9223372036854775807 := by decide
  refine ⟨_, zs, rfl, by omega, e2, some a, cap, by rw [List.length_map, e1], by rw [List.length_map, e1]; exact hl, hm, fun y hy => by obtain ⟨z, _, rfl⟩ := List.mem_map.1 hy; exact hf z, fun hne => ?_⟩
  have hpos : 0 < len := by
    rcases Nat.eq_zero_or_pos len with h0 | h0
    · rw [h0] at e1; rw [List.length_eq_zero_iff.1 e1] at hne; exact absurd rfl hne
    · exact h0
  have hvl : 0 < vs.length := by rw [e4]; exact Nat.mul_pos hpos hn0
  have h0 := e5 0 _ (List.getElem?_eq_getElem hvl)
  obtain ⟨b, o, sp⟩ := a
  have hsp : sp = none ∧ b < w.heap.size := by
    simp only [Addr.add, if_true, World.cell?] at h0
    cases e : w.heap[b]? with
    | none => rw [e] at h0; cases h0
    | some ob =>
      rw [e] at h0
      cases ob with
      | cells c t r =>
        refine ⟨?_, heap_lt e⟩
        cases sp with
        | none => rfl
        | some q => simp at h0
      | _ => cases h0
  obtain ⟨rfl, hb⟩ := hsp
  refine ⟨b, o, rfl, trivial, hb, vs, e3, fun i u hu => ?_⟩
  have h1 := e5 i u hu
  have h3 : (⟨b, o, none⟩ : Addr).add i = ⟨b, o + i, none⟩ := by
    unfold Addr.add
    split
    · rename_i h; subst h; rfl
    · rfl
  rw [h3] at h1
  exact h1
theorem ints_in {t e : TypeId} {fuel : Nat} {cs0 : List Value} {x : DataW H × List MemPlace} (ht : P.underlying t = some (.slice e)) (he : P.underlying e = some (.int .i64)) (hn : P.cellsOf e = 1)
    (h : DataW.trod enc P w base spare held fuel t cs0 = some x) : ∃ (v : Value) (zs : List Int), cs0 = [v] ∧ zs.length ≤ 9223372036854775807 ∧ (∀ z ∈ zs, -9223372036854775808 ≤ z ∧ z ≤ 9223372036854775807) ∧ (intsC zs).p (fun _ => True) w v := by
  refine slice_in ht hn (by decide) (fun z : Int => [intC z]) (fun _ => rfl) (fun z => -9223372036854775808 ≤ z ∧ z ≤ 9223372036854775807) (fun m cs y hy _ => ?_) h
  obtain ⟨z, rfl, _, hw⟩ := DataW.trod_int he hy
  exact ⟨z, ⟨rfl, trivial⟩, bounds_i64 hw⟩
theorem bytes_in {t e : TypeId} {fuel : Nat} {cs0 : List Value} {x : DataW H × List MemPlace} (ht : P.underlying t = some (.slice e)) (he : P.underlying e = some (.int .u8)) (hn : P.cellsOf e = 1)
    (h : DataW.trod enc P w base spare held fuel t cs0 = some x) : ∃ (v : Value) (zs : List Int), cs0 = [v] ∧ (∀ z ∈ zs, 0 ≤ z ∧ z < 256) ∧ (bytesC zs).p (fun _ => True) w v := by
  obtain ⟨v, zs, h1, _, h2, h3⟩ := slice_in ht hn (by decide) (fun z : Int => [CT.ex (Value.int .u8 z)]) (fun _ => rfl) (fun z => 0 ≤ z ∧ z < 256) (fun m cs y hy _ => by
    obtain ⟨z, rfl, _, hw⟩ := DataW.trod_int he hy
    exact ⟨z, ⟨rfl, trivial⟩, by have := bounds_u8 hw; omega⟩) h
  exact ⟨v, zs, h1, h2, h3⟩
end
theorem rows_in {H : Type} {enc : TypeId × Value → H} {w : World} {base : Nat} {spare : Nat → Bool} {held : Bool} {fuel : Nat} {cs0 : List Value} {x : DataW H × List MemPlace}
    (h : DataW.trod enc Tryz.prog w base spare held fuel 23 cs0 = some x) : ∃ (v : Value) (rs : List Rw), cs0 = [v] ∧ rs.length ≤ 9223372036854775807 ∧ (∀ r ∈ rs, r.cs.length ≤ 9223372036854775807) ∧ (rowsC rs).p (fun _ => True) w v := by
  refine slice_in Tryz.underlying23 (n := 2) (by kernel_rfl) (by decide) rwCs (fun _ => rfl) (fun r => r.cs.length ≤ 9223372036854775807) (fun m cs y hy hl => ?_) h
  obtain ⟨xs, k, rfl, rfl, _, h2, h3⟩ := DataW.trod_struct Tryz.underlying57 hy
  have f0 := h3 0 _ rfl
  have f1 := h3 1 _ rfl
  rw [List.getElem?_eq_getElem (show 0 < xs.length by rw [h2]; decide)] at f0
  rw [List.getElem?_eq_getElem (show 1 < xs.length by rw [h2]; decide)] at f1
  obtain ⟨c0, c1, rfl⟩ : ∃ a b, cs = [a, b] := by
    rcases cs with _ | ⟨a, _ | ⟨b, _ | ⟨c, l⟩⟩⟩ <;> simp only [List.length_nil, List.length_cons] at hl
    · omega
    · omega
    · exact ⟨a, b, rfl⟩
    · omega
  rw [show Tryz.prog.cellsOf _ = 1 from by kernel_rfl] at f0 f1
  obtain ⟨v, zs, e1, e2, _, e3⟩ := ints_in Tryz.underlying24 Tryz.underlying3 (by kernel_rfl) f0
  obtain ⟨b, e4, _, _⟩ := DataW.trod_int Tryz.underlying3 f1
  injection e1 with e1 _
  injection e4 with e4 _
  have e1 : c0 = v := e1
  have e4 : c1 = .int .i64 b := e4
  subst e1 e4
  exact ⟨⟨zs, b⟩, ⟨e3, rfl, trivial⟩, e2⟩
theorem fracs_in {H : Type} {enc : TypeId × Value → H} {w : World} {base : Nat} {spare : Nat → Bool} {held : Bool} {fuel : Nat} {cs0 : List Value} {x : DataW H × List MemPlace}
    (h : DataW.trod enc Tryz.prog w base spare held fuel 25 cs0 = some x) : ∃ (v : Value) (rs : List Rf), cs0 = [v] ∧ rs.length ≤ 9223372036854775807 ∧ (∀ r ∈ rs, r.xs.length ≤ 9223372036854775807 ∧ r.ys.length ≤ 9223372036854775807) ∧ (rfsC rs).p (fun _ => True) w v := by
  refine slice_in Tryz.underlying25 (n := 3) (by kernel_rfl) (by decide) rfCs (fun _ => rfl) (fun r => r.xs.length ≤ 9223372036854775807 ∧ r.ys.length ≤ 9223372036854775807) (fun m cs y hy hl => ?_) h
  obtain ⟨xs, k, rfl, rfl, _, h2, h3⟩ := DataW.trod_struct Tryz.underlying38 hy
  have f0 := h3 0 _ rfl
  have f1 := h3 1 _ rfl
  have f2 := h3 2 _ rfl
  rw [List.getElem?_eq_getElem (show 0 < xs.length by rw [h2]; decide)] at f0
  rw [List.getElem?_eq_getElem (show 1 < xs.length by rw [h2]; decide)] at f1
  rw [List.getElem?_eq_getElem (show 2 < xs.length by rw [h2]; decide)] at f2
  obtain ⟨c0, c1, c2, rfl⟩ : ∃ a b c, cs = [a, b, c] := by
    rcases cs with _ | ⟨a, _ | ⟨b, _ | ⟨c, _ | ⟨d, l⟩⟩⟩⟩ <;> simp only [List.length_nil, List.length_cons] at hl
    · omega
    · omega
    · omega
    · exact ⟨a, b, c, rfl⟩
    · omega
  rw [show Tryz.prog.cellsOf _ = 1 from by kernel_rfl] at f0 f1 f2
  obtain ⟨b, e4, _⟩ := DataW.trod_bool Tryz.underlying4 f0
  obtain ⟨v, zs, e1, e2, _, e3⟩ := ints_in Tryz.underlying36 Tryz.underlying3 (by kernel_rfl) f1
  obtain ⟨v2, zs2, e5, e6, _, e7⟩ := ints_in Tryz.underlying36 Tryz.underlying3 (by kernel_rfl) f2
  injection e1 with e1 _
  injection e4 with e4 _
  injection e5 with e5 _
  have e1 : c1 = v := e1
  have e4 : c0 = .bool b := e4
  have e5 : c2 = v2 := e5
  subst e1 e4 e5
  exact ⟨⟨b, zs, zs2⟩, ⟨rfl, e3, e7, trivial⟩, e2, e6⟩
end Go.Proofs.YtdhmbgogmoaofaaGreat
namespace Go.Proofs.YtdhmbgogmoaofaaGreat.linearPoints
open Go.ChangeShapes Go.WideShapes Go.ChangeAt Go.RowKit
open Go.ChangeMaps (open_string shut_string)
set_option linter.unusedVariables false
theorem own : ownKnob Tryz.prog.godebug = none := by kernel_rfl
theorem laidOut : laidOutB Tryz.prog = true := by kernel_rfl
set_option maxRecDepth 100000 in
theorem lifted (os : Os) (started : os.Started) (H : Type) (enc : TypeId × Value → H) :
    ReturnsInHanded {} Tryz.checked os 3 .any (Rows.linearPointsSpec.pre6 enc Tryz.prog Tryz.f3 Rows.linearPointsRow.domain false) (Rows.linearPointsSpec.post enc Tryz.prog Tryz.f3 false true false false) := by
  refine returnsInHanded_of_change (C := Tryz.checked) own started (by kernel_rfl) Tryz.func3
    (ChangeSpec.witness6 (enc := enc) (C := Tryz.checked) false ⟨#[], #[.slice none 0 0, .int .i64 0, .slice none 0 0, .slice none 0 0, .slice none 0 0], []⟩ 8 (by kernel_rfl) (by kernel_rfl) (by kernel_rfl) (by kernel_rfl)) ?_
  intro W base args ds gs before hval0 hW hcnd _
  have hval : ∀ (j : Nat) t v, Tryz.f3.params[j]? = some t → args[j]? = some v → Value.okWide Tryz.prog W .any base t v := hval0
  have hW' := hW
  obtain ⟨p, q, hA0, hV, rfl, hfz, hnd⟩ := hW
  have hA : DataW.TrodAll enc Tryz.prog W 0 (fun _ => true) true Tryz.f3.params.toList args.toList ds p := hA0
  rw [Tryz.params3] at hA hval
  obtain ⟨v0, vs0, d0, ds0, p0, q0, hargs0, rfl, rfl, h0, r0⟩ := trodAll_cons hA
  obtain ⟨v1, vs1, d1, ds1, p1, q1, hargs1, rfl, rfl, h1, r1⟩ := trodAll_cons r0
  obtain ⟨v2, vs2, d2, ds2, p2, q2, hargs2, rfl, rfl, h2, r2⟩ := trodAll_cons r1
  obtain ⟨v3, vs3, d3, ds3, p3, q3, hargs3, rfl, rfl, h3, r3⟩ := trodAll_cons r2
  obtain ⟨v4, vs4, d4, ds4, p4, q4, hargs4, rfl, rfl, h4, r4⟩ := trodAll_cons r3
  obtain ⟨rfl, rfl, rfl⟩ := trodAll_nil r4
  obtain rfl : args = #[v0, v1, v2, v3, v4] := by cases args; simp_all
  obtain ⟨rfl, rfl⟩ := trodVars_none hV
  obtain ⟨a0, len0, cap0, rfl⟩ := okWide_slice Tryz.underlying22 (hval 0 22 v0 rfl rfl)
  have k0 := h0
  have lt0 : ∀ x ∈ p0, x.block < W.heap.size := by obtain ⟨m, hm⟩ := k0; exact DataW.trod_lt m _ _ _ hm
  obtain ⟨f0, t0⟩ := h0
  obtain ⟨u0, z0, e0, c0, w0⟩ := bytes_in Tryz.underlying22 Tryz.underlying5 (by kernel_rfl) t0
  have e0 : Value.slice a0 len0 cap0 = u0 := by simpa [Value.cells] using e0
  subst e0
  obtain ⟨a1, rfl, rfl, rfl, w1⟩ := open_int Tryz.underlying3 (hval 1 3 v1 rfl rfl) h1
  obtain ⟨a2, len2, cap2, rfl⟩ := okWide_slice Tryz.underlying23 (hval 2 23 v2 rfl rfl)
  have k2 := h2
  have lt2 : ∀ x ∈ p2, x.block < W.heap.size := by obtain ⟨m, hm⟩ := k2; exact DataW.trod_lt m _ _ _ hm
  obtain ⟨f2, t2⟩ := h2
  obtain ⟨u2, z2, e2, b2, c2, w2⟩ := rows_in t2
  have e2 : Value.slice a2 len2 cap2 = u2 := by simpa [Value.cells] using e2
  subst e2
  obtain ⟨a3, len3, cap3, rfl⟩ := okWide_slice Tryz.underlying24 (hval 3 24 v3 rfl rfl)
  have k3 := h3
  have lt3 : ∀ x ∈ p3, x.block < W.heap.size := by obtain ⟨m, hm⟩ := k3; exact DataW.trod_lt m _ _ _ hm
  obtain ⟨f3, t3⟩ := h3
  obtain ⟨u3, z3, e3, b3, c3, w3⟩ := ints_in Tryz.underlying24 Tryz.underlying3 (by kernel_rfl) t3
  have e3 : Value.slice a3 len3 cap3 = u3 := by simpa [Value.cells] using e3
  subst e3
  obtain ⟨a4, len4, cap4, rfl⟩ := okWide_slice Tryz.underlying25 (hval 4 25 v4 rfl rfl)
  have k4 := h4
  have lt4 : ∀ x ∈ p4, x.block < W.heap.size := by obtain ⟨m, hm⟩ := k4; exact DataW.trod_lt m _ _ _ hm
  obtain ⟨f4, t4⟩ := h4
  obtain ⟨u4, z4, e4, b4, c4, w4⟩ := fracs_in t4
  have e4 : Value.slice a4 len4 cap4 = u4 := by simpa [Value.cells] using e4
  subst e4
  clear hA0 hval0
  refine (((LinearPoints_ok z0 a1 z2 z3 z4 c0  b2 c2 b3 c3 b4 c4) (fun _ => True) W [.slice a0 len0 cap0, .int .i64 a1, .slice a2 len2 cap2, .slice a3 len3 cap3, .slice a4 len4 cap4] (fun _ _ => trivial) ⟨w0, rfl, w2, w3, w4, trivial⟩)).mono fun e W' ⟨v, he, hv, bel⟩ => ?_
  have hv : v = .bool true := hv
  subst hv he
  exact ⟨_, rfl, _, _, _, [], _, [], hW', trodAll_mk1 (shut_bool Tryz.underlying4 _), (trodAll_cons_mk (Below.trod laidOut (by kernel_rfl) (of_decide_eq_true (by kernel_rfl)) k0 bel lt0) (trodAll_cons_mk (shut_int Tryz.underlying3 w1) (trodAll_cons_mk (Below.trod laidOut (by kernel_rfl) (of_decide_eq_true (by kernel_rfl)) k2 bel lt2) (trodAll_cons_mk (Below.trod laidOut (by kernel_rfl) (of_decide_eq_true (by kernel_rfl)) k3 bel lt3) (trodAll_cons_mk (Below.trod laidOut (by kernel_rfl) (of_decide_eq_true (by kernel_rfl)) k4 bel lt4) trodAll_mk0))))), rfl, bel.frame _, fun h => by cases h⟩
theorem over : Rows.linearPointsRow.holds Tryz.pinned (OpenSpec.ofChange Rows.linearPointsSpec) :=
  OpenClaim.holds_of_wide 3 Tryz.f3 rfl rfl rfl rfl rfl rfl rfl ⟨rfl, rfl, rfl, rfl, rfl⟩ rfl rfl rfl rfl rfl (by kernel_rfl) Tryz.func3 (by kernel_rfl)
    (of_decide_eq_true (by kernel_rfl)) (by unfold Func.isWrapper; first | (rw [if_pos (by decide +kernel)]; kernel_rfl) | (rw [if_neg (by decide +kernel)]; exact ⟨rfl, rfl⟩))
    (fun os started H enc _ => lifted os started H enc)
theorem proved : Rows.LinearPointsSaid := over
#print axioms proved
end Go.Proofs.YtdhmbgogmoaofaaGreat.linearPoints
