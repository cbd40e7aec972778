/- The proof that FarkasChecks holds for every input, without conditions: part 4 of 6. -/
import Derived.Test.YtdhmbgogmoaofaaGreatZ3
namespace Go.Proofs.YtdhmbgogmoaofaaGreat
open Go.Own Go.Limbs Go.Det
def ptl (n : Nat) (X : Nat → Int) (D : Int) : List Fr := (List.range n).map fun v => ofQ (shq (X v) D)
theorem list_range {α : Type} {l : List α} {n : Nat} {f : Nat → α} {z : α} (hl : l.length = n) (h : ∀ v, v < n → l.getD v z = f v) : l = (List.range n).map f := by
  subst hl; rw [← range_self l z]; rw [List.length_map, List.length_range]
  exact List.map_congr_left fun v hv => h v (by simpa using hv)
def Kt (m : Nat) : Nat := (m + 2) * (4503599627370496 * (fact (m + 2) * 1048576 ^ (m + 2)))
inductive Sol (n : Nat) (rs : List Rw) (c : List Int) : Oc → Prop
  | opt (D : Int) (X Y : Nat → Int) (val : Int) (hX : Feas n rs D X) (hv : sm (fun j => c.getD j 0 * X j) n = val) (hY : Dual n rs c D Y) (hw : sm (fun i => cb rs i * Y i) rs.length = val)
      (b1 : D.natAbs ≤ Kt rs.length) (b2 : ∀ v, v < n → (X v).natAbs ≤ Kt rs.length) (b3 : ∀ i, i < rs.length → (Y i).natAbs ≤ Kt rs.length) (b4 : val.natAbs ≤ Kt rs.length) : Sol n rs c ⟨1, ofQ (shq val D), ptl n X D, [], ptl rs.length Y D⟩
  | unb (D : Int) (X Z : Nat → Int) (hX : Feas n rs D X) (hZ : Ray n rs c D Z)
      (b1 : D.natAbs ≤ Kt rs.length) (b2 : ∀ v, v < n → (X v).natAbs ≤ Kt rs.length) (b3 : ∀ v, v < n → (Z v).natAbs ≤ Kt rs.length) : Sol n rs c ⟨2, frz0, ptl n X D, ptl n Z D, []⟩
  | emp (D : Int) (Y : Nat → Int) (hY : Refu n rs D Y) (b1 : D.natAbs ≤ Kt rs.length) (b3 : ∀ i, i < rs.length → (Y i).natAbs ≤ Kt rs.length) : Sol n rs c ⟨3, frz0, [], [], ptl rs.length Y D⟩
section
variable {n : Nat} {rs : List Rw} {c : List Int} {W : Nat} {T : Tv} {bs : List Nat}
theorem dT_Kt (h : LpOk n rs c) {i : Nat} {x : Vec} (hl : bs.length = rs.length + 2) (hi : i < rs.length + 2) (hx2 : x = rhsQ rs ∨ ∃ v, x = colA n rs c v) : (dT (colA n rs c) bs i x).natAbs ≤ Kt rs.length := by
  have dtb : ∀ l : List Vec, l.length = rs.length + 2 → (∀ x ∈ l, ∀ i, (x i).natAbs ≤ 1048576) → (dt l).natAbs ≤ fact (rs.length + 2) * 1048576 ^ (rs.length + 2) := fun l hl hA => by
    have h1 := dt_bd l hA
    rwa [hl] at h1
  unfold Kt; rcases hx2 with rfl | ⟨v, rfl⟩
  · have e : rhsQ rs = comb (rhsQ rs) Go.Det.unit (rs.length + 2) := by
      funext j
      unfold comb; by_cases hj : j < rs.length + 2
      · rw [Yp hj fun k _ hk => by simp [Go.Det.unit, Ne.symm hk]]; simp [Go.Det.unit]
      · rw [Yo j (by omega), ZK fun k hk => by rw [show Go.Det.unit k j = 0 from if_neg (by omega), Int.mul_zero]]
    have e2 : dT (colA n rs c) bs i (rhsQ rs) = sm (fun k => rhsQ rs k * dt ((cols (colA n rs c) bs).set i (Go.Det.unit k))) (rs.length + 2) := by
      unfold dT
      conv => lhs; rw [e]
      exact Yu (by rw [Zu]; omega) _ _ _
    rw [e2]
    refine sm_natAbs fun k _ => ?_
    rw [Int.natAbs_mul]
    refine Nat.mul_le_mul ?_ (dtb _ (by rw [List.length_set, Zu]; exact hl) fun x hx i => ?_)
    · unfold rhsQ; split
      · rename_i h2; exact h.bb _ (rs_mem h2)
      · decide
    · rcases mem_set_or hx with h3 | h3
      · exact cols_bd h h3 i
      · rw [h3]; unfold Go.Det.unit; split <;> decide
  · refine Nat.le_trans (dtb _ (by rw [List.length_set, Zu]; exact hl) fun x hx i => ?_) ?_
    · rcases mem_set_or hx with h3 | h3
      · exact cols_bd h h3 i
      · rw [h3]; exact colA_bd h v i
    · exact Nat.le_trans (Nat.le_mul_of_pos_left _ (by decide)) (Nat.le_mul_of_pos_left _ (by omega))
theorem sgn_le1 (d : Int) : d.sign.natAbs ≤ 1 := by rw [Int.natAbs_sign]; split <;> omega
theorem tt_Kt (h : LpOk n rs c) {i : Nat} {x : Vec} (hl : bs.length = rs.length + 2) (hi : i < rs.length + 2) (hx2 : x = rhsQ rs ∨ ∃ v, x = colA n rs c v) : (tt (colA n rs c) bs i x).natAbs ≤ Kt rs.length := by
  unfold tt; rw [Int.natAbs_mul]; have h1 := Nat.mul_le_mul (sgn_le1 (dD (colA n rs c) bs)) (dT_Kt h hl hi hx2); omega
theorem den_Kt (h : LpOk n rs c) (hP : Ph n rs c W T bs) : (Go.Det.den (colA n rs c) bs).natAbs ≤ Kt rs.length := by
  have := tt_Kt h (i := rs.length) hP.bas.len (by omega) (.inr ⟨bs.getD rs.length 0, rfl⟩)
  rwa [tt_own hP.bas.len (by omega)] at this
theorem vx_Kt (h : LpOk n rs c) (hP : Ph n rs c W T bs) {x : Vec} (hx2 : x = rhsQ rs ∨ ∃ v, x = colA n rs c v) (v : Nat) : (vx n rs c bs x v).natAbs ≤ Kt rs.length := by
  by_cases hb : ∃ k, k < rs.length ∧ bs.getD k 0 = v
  · obtain ⟨k, hk, rfl⟩ := hb; rw [vx_row hP hk]; exact tt_Kt h hP.bas.len (by omega) hx2
  · rw [vx_out fun k hk e => hb ⟨k, hk, e⟩]; exact Nat.zero_le _
theorem lp_sol (hL : LpOk n rs c) : ∃ T E F s, SolRun n rs c T E F s ∧ Sol n rs c (ocOf n rs.length T E F s) := by
  have hS := lp_sys hL
  let T : Tv := ⟨.slice none 0 0, .slice none 0 0, .slice none 0 0, List.replicate (rs.length + 1) default, (rs.map fun r => lnOf n r.cs r.b) ++ [lnOf n (c.map fun x => -x) 0], rng n rs.length, rng 0 n, 1⟩
  have hB : Beg n rs c T := ⟨rfl, rfl, rfl, rfl, by show (List.replicate _ _).length = _; simp [T]⟩
  have hbl : T.bas.length = rs.length := by rw [hB.bas, X8]
  have hcl : T.col.length = n := by rw [hB.col, X8]
  obtain ⟨E, hst, hE⟩ := hB.start hL; generalize T = T at *
  have second : ∀ P bs, Ph n rs c (n + rs.length) P bs → P.rows.length = rs.length + 1 → P.col.length = n → stOut T E ((n + rs.length : Nat) : Int) = P → stRes T E = true →
      ∃ F s, SolRun n rs c T E F s ∧ Sol n rs c (ocOf n rs.length T E F s) := by
    intro P bs hP hPr hPc hout hres; obtain ⟨k, F, s, bf, hR, hG, hEn, hr, hj⟩ := hP.good.ends hS (g := rs.length) (Nat.le_refl _) (by rw [hPr]; omega) (hP.small (Nat.le_refl _)); have hF : Ph n rs c (n + rs.length) F bf := ⟨hG, by rw [hj _ (Nat.le_refl _)]; exact hP.z, by rw [hj _ (by omega)]; exact hP.w⟩; have hV := hG.view; have hlen := hR.lens; have hcol : ∀ i, 0 ≤ F.col.getD i 0 := hV.colv
    have hbas : ∀ i, 0 ≤ F.bas.getD i 0 := fun i => by
      by_cases h1 : i < rs.length
      · rw [hV.basv i h1]; omega
      · rw [getD_ge (by rw [hV.basl]; omega)]; exact Int.le_refl _
    have hpt : (ptS F n F.bas.length).map ofQ = ptl n (vx n rs c bf (rhsQ rs)) (Go.Det.den (colA n rs c) bf) := by
      rw [list_range (ptS_len F n _) (fun v hv => hF.pt_at hv), List.map_map]; rfl
    have hpo := hF.point; have hdK := den_Kt hL hF
    have hvK := fun v => vx_Kt hL hF (.inl J) v
    rcases hEn with ⟨hs, h1⟩ | ⟨e, hs, he, h1, h2⟩
    · refine ⟨F, s, ⟨hB, hst, fun h => (by rw [hres] at h; cases h), fun _ => ⟨k, by rw [hout]; exact hR⟩, fun _ => ⟨by rw [hr, hPr], hcol, hbas, by rw [hs]; omega, by rw [hs]; decide⟩⟩, ?_⟩; have hdu := hF.dual h1
      have e1 : ocOf n rs.length T E F s = ⟨1, ofQ (shq (F.at rs.length F.col.length) F.den), (ptS F n F.bas.length).map ofQ, [], (duS F n rs.length rs.length F.col.length).map ofQ⟩ := by
        unfold ocOf; rw [if_neg (by rw [hres]; decide), if_neg (by rw [hs]; decide)]
      have hdl : (duS F n rs.length rs.length F.col.length).map ofQ = ptl rs.length (yx n rs c bf rs.length) (Go.Det.den (colA n rs c) bf) := by
        rw [list_range (duS_len F n rs.length rs.length _) (fun i hi => hF.du_at (Nat.le_refl _) (Nat.le_refl _) (by rw [hr, hPr]; omega) hi), List.map_map]; rfl
      rw [e1, hpt, hdl, hV.rhs rs.length (by rw [hr, hPr]; omega), hV.den]; exact .opt _ _ _ _ hpo.1 hpo.2 hdu.1 hdu.2 hdK (fun v _ => hvK v) (fun i _ => tt_Kt hL hF.bas.len (by omega) (.inr ⟨_, rfl⟩)) (tt_Kt hL hF.bas.len (by omega) (.inl J))
    · refine ⟨F, s, ⟨hB, hst, fun h => (by rw [hres] at h; cases h), fun _ => ⟨k, by rw [hout]; exact hR⟩, fun _ => ⟨by rw [hr, hPr], hcol, hbas, by rw [hs]; omega, by rw [hs]; omega⟩⟩, ?_⟩; have hcW := hG.cov.col e he; have hcn := hcol e; obtain ⟨v0, hv0⟩ : ∃ v0 : Nat, F.col.getD e 0 = v0 := ⟨(F.col.getD e 0).toNat, by omega⟩; rw [hv0, Int.toNat_natCast] at h1 h2
      have hnb : ∀ k, k < rs.length → bf.getD k 0 ≠ v0 := fun k hk e2 => by have := hG.cov.dis e k he hk; omega
      have hra := hF.ray (s := v0) (by omega) hnb h1 h2
      have e1 : ocOf n rs.length T E F s = ⟨2, frz0, (ptS F n F.bas.length).map ofQ, (raS F n e F.bas.length).map ofQ, []⟩ := by
        unfold ocOf; rw [if_neg (by rw [hres]; decide), if_pos (by omega), hs, Int.toNat_natCast]
      have hrl : (raS F n e F.bas.length).map ofQ = ptl n (zx n rs c bf v0) (Go.Det.den (colA n rs c) bf) := by
        rw [list_range (raS_len F n e _) (fun v hv => hF.ra_at he hv0 hv), List.map_map]; rfl
      rw [e1, hpt, hrl]; refine .unb _ _ _ hpo.1 hra hdK (fun v _ => hvK v) (fun v _ => ?_); have hb := vx_Kt hL hF (x := colA n rs c v0) (.inr ⟨_, rfl⟩) v; unfold zx; by_cases h3 : v = v0
      · rw [if_pos h3, h3, vx_out hnb, Int.sub_zero]; exact hdK
      · rw [if_neg h3]; omega
  cases hE with
  | keep hw h hc =>
    have hout : stOut T E ((n + rs.length : Nat) : Int) = T := by unfold stOut; rw [hbl, if_pos hw]
    have hres : stRes T E = true := by unfold stRes; rw [hbl, decide_eq_true hw]; rfl
    obtain ⟨F, s, h1, h2⟩ := second T _ h hB.len hc hout hres; exact ⟨T, E, F, s, h1, h2⟩
  | none bs hw h hv ha =>
    have hres : stRes T E = false := by unfold stRes; rw [hbl, hcl, decide_eq_false (by omega), decide_eq_true ha]; rfl
    have hP := h.ph; have hV := hP.good.view
    have e1 : ocOf n rs.length T E E 0 = ⟨3, frz0, [], [], (duS E n rs.length (rs.length + 1) E.col.length).map ofQ⟩ := by
      unfold ocOf; rw [if_pos hres]
    have hdl : (duS E n rs.length (rs.length + 1) E.col.length).map ofQ = ptl rs.length (yx n rs c bs (rs.length + 1)) (Go.Det.den (colA n rs c) bs) := by
      rw [list_range (duS_len E n rs.length (rs.length + 1) _) (fun i hi => hP.du_at (by omega) (by omega) (by rw [h.rows]; omega) hi), List.map_map]; rfl
    refine ⟨T, E, E, 0, ⟨hB, hst, fun _ => ⟨hV.gd hS hP.good.hl hP.good.few hP.good.thin, h.rows, hV.colv⟩, fun h1 => (by rw [hres] at h1; cases h1), fun h1 => (by rw [hres] at h1; cases h1)⟩, ?_⟩; rw [e1, hdl]; exact .emp _ _ (h.refu hv) (den_Kt hL hP) (fun i _ => tt_Kt hL hP.bas.len (by omega) (.inr ⟨_, rfl⟩))
  | some bs hw ha h hc hr =>
    have hout : stOut T E ((n + rs.length : Nat) : Int) = stE3 E rs.length n ((n + rs.length : Nat) : Int) := by unfold stOut; rw [hbl, hcl, if_neg (by omega), if_neg ha]
    have hres : stRes T E = true := by unfold stRes; rw [hbl, hcl, decide_eq_false ha]; simp
    obtain ⟨F, s, h1, h2⟩ := second _ _ h hr hc hout hres; exact ⟨T, E, F, s, h1, h2⟩
end
structure F6 (f : Fr) : Prop where
  num : f.num < 1073741824 ^ 6
  den : f.den < 1073741824 ^ 6
  pos : 0 < f.den
  neg : f.neg = true → f.num ≠ 0
structure F9 (f : Fr) : Prop where
  num : f.num < 1073741824 ^ 9
  den : f.den < 1073741824 ^ 9
  pos : 0 < f.den
  neg : f.neg = true → f.num ≠ 0
theorem F6.f9 {f : Fr} (h : F6 f) : F9 f := ⟨Nat.lt_trans h.num (by decide), Nat.lt_trans h.den (by decide), h.pos, h.neg⟩
theorem F9.vf {f : Fr} (h : F9 f) : VF f := ⟨Nat.le_trans (Qf h.num) (by decide), Nat.le_trans (Qf h.den) (by decide), h.pos, h.neg⟩
theorem mk_le (N : Int) (P : Nat) (hP : 0 < P) : (ofQ (mkRat N P)).num ≤ N.natAbs ∧ (ofQ (mkRat N P)).den ≤ P := by
  have h := redF_q (decide (N < 0)) N.natAbs P hP; rw [sg_natAbs] at h; rw [← h]; exact ⟨Nat.div_le_self _ _, Nat.div_le_self _ _⟩
theorem prod_mk (c : Int) (f : Fr) (h : 0 < f.den) : (c : Rat) * qv f = mkRat (c * sg f.neg f.num) f.den := by
  have e : (c : Rat) = mkRat c 1 := (Rat.mkRat_one c).symm; unfold qv; rw [e, Rat.mkRat_mul_mkRat, Nat.one_mul]
theorem sg_abs (n : Bool) (a : Nat) : (sg n a).natAbs = a := natAbs_sg n a
theorem psum_mk (c : List Int) (xs : List Fr) (hc : ∀ i, (c.getD i 0).natAbs ≤ 9223372036854775808) : ∀ k, (∀ j, j < k → F9 (xs.getD j fr0)) → ∃ (N : Int) (P : Nat), 0 < P ∧ psum c xs k = mkRat N P ∧ P ≤ 1073741824 ^ (9 * k) ∧ N.natAbs ≤ k * (9223372036854775808 * 1073741824 ^ (9 * k))
  | 0, _ => ⟨0, 1, by decide, by simp [psum], by decide, by decide⟩
  | k + 1, hx => by
    obtain ⟨N, P, hP, he, hPb, hNb⟩ := psum_mk c xs hc k (fun j hj => hx j (by omega))
    have hf := hx k (by omega)
    generalize hff : xs.getD k fr0 = f at hf
    have hck := hc k
    have hpr := prod_mk (c.getD k 0) f hf.pos
    have hsg := sg_abs f.neg f.num
    have hn := hf.num
    have hd := hf.den
    have hd0 := hf.pos
    refine ⟨N * f.den + c.getD k 0 * sg f.neg f.num * P, P * f.den, Nat.mul_pos hP hf.pos, ?_, ?_, ?_⟩
    · simp only [psum]
      rw [he, hff, hpr, Rat.mkRat_add_mkRat _ _ (by omega) (by omega)]
    · rw [show 9 * (k + 1) = 9 * k + 9 by omega, Nat.pow_add]
      exact Nat.mul_le_mul hPb (by omega)
    · have e : 1073741824 ^ (9 * (k + 1)) = 1073741824 ^ (9 * k) * 1073741824 ^ 9 := by rw [show 9 * (k + 1) = 9 * k + 9 by omega, Nat.pow_add]
      rw [e]
      generalize 1073741824 ^ (9 * k) = Q at *
      have h1 : (N * f.den).natAbs ≤ k * (9223372036854775808 * Q) * 1073741824 ^ 9 := by
        rw [Int.natAbs_mul]; exact Nat.mul_le_mul hNb (by omega)
      have h2 : (c.getD k 0 * sg f.neg f.num * P).natAbs ≤ 9223372036854775808 * 1073741824 ^ 9 * Q := by
        rw [Int.natAbs_mul, Int.natAbs_mul, hsg]; exact Nat.mul_le_mul (Nat.mul_le_mul hck (by omega)) hPb
      have h3 : (N * f.den + c.getD k 0 * sg f.neg f.num * P).natAbs ≤ (N * f.den).natAbs + (c.getD k 0 * sg f.neg f.num * P).natAbs := Int.natAbs_add_le _ _
      have e2 : (k + 1) * (9223372036854775808 * (Q * 1073741824 ^ 9)) = k * (9223372036854775808 * Q) * 1073741824 ^ 9 + 9223372036854775808 * 1073741824 ^ 9 * Q := by
        generalize (1073741824 : Nat) ^ 9 = R
        grind
      omega
theorem psum_sz (c : List Int) (xs : List Fr) (hc : ∀ i, (c.getD i 0).natAbs ≤ 9223372036854775808) {k : Nat} (hk : k ≤ 6) (hx : ∀ j, j < k → F9 (xs.getD j fr0)) :
    (limbs (ofQ (psum c xs k)).num).length ≤ 57 ∧ (limbs (ofQ (psum c xs k)).den).length ≤ 55 ∧ (k ≤ 5 → (limbs (ofQ (psum c xs k)).num).length ≤ 48 ∧ (limbs (ofQ (psum c xs k)).den).length ≤ 46) := by
  obtain ⟨N, P, hP, he, hPb, hNb⟩ := psum_mk c xs hc k hx; have hm := mk_le N P hP; rw [← he] at hm
  have p6 : ∀ a, k ≤ a → 1073741824 ^ (9 * k) ≤ 1073741824 ^ (9 * a) := fun a ha => Nat.pow_le_pow_right (by decide) (by omega)
  have nb : ∀ a, k ≤ a → N.natAbs ≤ a * (9223372036854775808 * 1073741824 ^ (9 * a)) := fun a ha => Nat.le_trans hNb (Nat.mul_le_mul ha (Nat.mul_le_mul_left _ (p6 a ha)))
  refine ⟨Qf (Nat.lt_of_le_of_lt (Nat.le_trans hm.1 (nb 6 hk)) (by decide)), Qf (Nat.lt_of_le_of_lt (Nat.le_trans hm.2 (Nat.le_trans hPb (p6 6 hk))) (by decide)), fun h5 => ⟨Qf (Nat.lt_of_le_of_lt (Nat.le_trans hm.1 (nb 5 h5)) (by decide)), Qf (Nat.lt_of_le_of_lt (Nat.le_trans hm.2 (Nat.le_trans hPb (p6 5 h5))) (by decide))⟩⟩
theorem vfit9 (c : List Int) (xs : List Fr) (hcl : c.length ≤ 1000) (hc : ∀ i, -9223372036854775808 ≤ c.getD i 0 ∧ c.getD i 0 ≤ 9223372036854775807) (hxl : xs.length ≤ 6) (hx : ∀ f ∈ xs, F9 f) : VFit c xs ∧ (limbs (ofQ (vsum c xs)).num).length ≤ 57 ∧ (limbs (ofQ (vsum c xs)).den).length ≤ 55 := by
  have hc' : ∀ i, (c.getD i 0).natAbs ≤ 9223372036854775808 := fun i => by have := hc i; omega
  have hx' : ∀ k, k < min c.length xs.length → F9 (xs.getD k fr0) := fun k hk => hx _ (Xj (by omega))
  have hp : ∀ k, k < min c.length xs.length → (limbs (ofQ ((c.getD k 0 : Rat) * qv (xs.getD k fr0))).num).length ≤ 12 ∧ (limbs (ofQ ((c.getD k 0 : Rat) * qv (xs.getD k fr0))).den).length ≤ 9 := fun k hk => by
    have hf := hx' k hk; have hm := mk_le (c.getD k 0 * sg (xs.getD k fr0).neg (xs.getD k fr0).num) (xs.getD k fr0).den hf.pos; rw [← prod_mk _ _ hf.pos] at hm
    have h1 : (c.getD k 0 * sg (xs.getD k fr0).neg (xs.getD k fr0).num).natAbs ≤ 9223372036854775808 * 1073741824 ^ 9 := by
      rw [Int.natAbs_mul, sg_abs]; exact Nat.mul_le_mul (hc' k) (Nat.le_of_lt hf.num)
    exact ⟨Qf (Nat.lt_of_le_of_lt (Nat.le_trans hm.1 h1) (by decide)), Qf (Nat.lt_of_le_of_lt hm.2 hf.den)⟩
  have hs : ∀ k, k < min c.length xs.length → (limbs (ofQ (psum c xs k)).num).length ≤ 48 ∧ (limbs (ofQ (psum c xs k)).den).length ≤ 46 := fun k hk => (psum_sz c xs hc' (by omega) (fun j hj => hx' j (by omega))).2.2 (by omega)
  have hv := psum_sz c xs hc' (k := min c.length xs.length) (by omega) hx'; refine ⟨⟨hcl, by omega, hc, fun k hk => (hx' k hk).pos, fun k hk => ?_, fun k hk => ?_, fun k hk => ?_, fun k hk => ?_, fun k hk => ?_⟩, hv.1, hv.2.1⟩
  · have h1 : (limbs (ofQ (c.getD k 0 : Rat)).num).length ≤ 3 := Qf (Nat.lt_of_le_of_lt (show (ofQ (c.getD k 0 : Rat)).num ≤ 9223372036854775808 from hc' k) (by decide)); have h2 := Qf (hx' k hk).num; omega
  · have h2 := Qf (hx' k hk).den; omega
  · have h1 := hp k hk; have h2 := hs k hk; omega
  · have h1 := hp k hk; have h2 := hs k hk; omega
  · have h1 := hp k hk; have h2 := hs k hk; omega
theorem sfit9 (n : Int) (rs : List Rw) (xs : List Fr) (hv : validR n rs = true) (hxl : xs.length ≤ 6) (hx : ∀ f ∈ xs, F9 f) : SFit rs xs := by
  obtain ⟨v1, v2, v3, v4⟩ := X4 hv
  have key : ∀ r ∈ rs, VFit r.cs xs ∧ (limbs (ofQ (vsum r.cs xs)).num).length ≤ 57 ∧ (limbs (ofQ (vsum r.cs xs)).den).length ≤ 55 := fun r hr => by
    obtain ⟨h1, h2, h3⟩ := v4 r hr; refine vfit9 r.cs xs (by omega) (fun i => ?_) hxl hx; rcases Nat.lt_or_ge i r.cs.length with h4 | h4
    · have := h2 _ (Xj (z := 0) h4); omega
    · rw [getD_ge h4]; decide
  exact ⟨fun r hr => (key r hr).1, fun r hr => by have := (key r hr).2.1; omega, fun r hr => by have := (key r hr).2.2; omega⟩
theorem lp_of {n : Int} {rs : List Rw} {c : List Int} (hv : validR n rs = true) (hc : okCoeffs n c = true) : ∃ N : Nat, n = N ∧ LpOk N rs c := by
  obtain ⟨v1, v2, v3, v4⟩ := X4 hv; obtain ⟨N, rfl⟩ : ∃ N : Nat, n = N := ⟨n.toNat, by omega⟩
  have bdd : ∀ xs : List Int, (∀ y ∈ xs, y.natAbs ≤ 1048576) → ∀ i, (xs.getD i 0).natAbs ≤ 1048576 := fun xs hx i => by
    rcases Nat.lt_or_ge i xs.length with h | h
    · exact hx _ (Xj h)
    · rw [getD_ge h]; decide
  unfold okCoeffs at hc; rw [Bool.and_eq_true] at hc; have h1 := of_decide_eq_true hc.1
  have h2 : ∀ y ∈ c, y.natAbs ≤ 1048576 := fun y hy => by
    have h3 : c.any badC = false := by simpa using hc.2
    have h4 := List.any_eq_false.1 h3 y hy; unfold badC at h4; simp only [Bool.or_eq_true, decide_eq_true_eq, not_or] at h4; omega
  exact ⟨N, rfl, ⟨by omega, v3, by omega, bdd c h2, fun r hr => by have := (v4 r hr).1; omega, fun r hr => bdd _ (v4 r hr).2.1, fun r hr => (v4 r hr).2.2⟩⟩
end Go.Proofs.YtdhmbgogmoaofaaGreat
namespace Go.Proofs.YtdhmbgogmoaofaaGreat
open Go.Own Go.Limbs
attribute [local irreducible] St Ops Go.Own.Fin Ok
theorem zvInt : (Tryz.prog.info? 3).map (·.zero) = some (some (.int .i64 0)) := by kernel_rfl
theorem multipliers1_tw (m : Int) (hm : Tb m) (h0 : 0 ≤ m) : Ok Tryz.prog 145 [twC m] (boolC false) := by
  refine Ok.enter Tryz.func145 J _ Tryz.ntmps145 J ?_
  intro S w; refine Qy (Qx fun K hK => ?_); refine Qh 0 J J J J J J J (Qj J J J (Qv (hK _ _ (Qz (Qy ?_))))); clear hK K; refine Qx (fun K hK => ?_); refine Qd (n := 3) J J J J J Qg J (QX Yx (Valid_tw m hm) J J J J (Qe J J J (Qq J J J (QW J J J fF0 J (QK J J J J J lBool J (Q2 J J J J (Qj J J J (Qv (hK _ _ (Qz (QU ?_))))))))))); clear hK K; refine QY [_] rfl (Qu J QQ) (by rw [tf_neg, decide_eq_false (show ¬ m < 0 by omega)]; rfl) J
theorem gomultipliers1 : InGo Tryz.prog 145 := InGo.of Tryz.func145 (by kernel_rfl) (by kernel_rfl)
theorem multipliers_tw (rs : List Rw) (ys : List Int) (hl : ys.length = rs.length) (h64 : rs.length ≤ 64) (hy : ∀ y ∈ ys, 0 ≤ y ∧ y ≤ 1000) : Ok Tryz.prog 96 [rowsC rs, twsC ys] (boolC true) := by
  have hC := Zo (ys.map tf) _ (fun _ => false) gomultipliers1 (fun f hf => by
    obtain ⟨m, hm, rfl⟩ := List.mem_map.mp hf
    exact multipliers1_tw m (by have := hy m hm; unfold Tb; omega) (hy m hm).1) (by simp; omega)
  rw [← twsC_eq, show (ys.map tf).any (fun _ => false) = false by simp] at hC
  refine Ok.enter Tryz.func96 J _ Tryz.ntmps96 J ?_
  intro S w; refine Qy (Qx fun K hK => ?_); refine Qj J J J (Qv (hK _ _ (Qz (Qy ?_)))); clear hK K; refine Qx (fun K hK => ?_); refine Qq J J J (Q3 J J sFracs.und (List.length_map ..) J (Qq J J J (Q3 J J sRows.und (List.length_map ..) J (Qk ieql J J J J (Qq J J J ?_))))); rw [decide_eq_true (show (ys.length : Int) = rs.length by omega)]; refine Qq J J J (QX Xg hC J J J J (Qe J J J (Q6 J J J J (Qj J J J (Qv (hK _ _ (Qz (QU ?_)))))))); clear hK K; refine QY [_] rfl (Qu J QQ) J J
theorem gomultipliers : InGo Tryz.prog 96 := InGo.of Tryz.func96 (by kernel_rfl) (by kernel_rfl)
theorem Y1 {α β : Type} (f : α → β) (z : α) {xs : List α} {i : Nat} (h : i < xs.length) : (xs.take (i + 1)).map f = (xs.take i).map f ++ [f (xs.getD i z)] := by
  rw [List.take_succ_eq_append_getElem h, List.map_append]; simp [List.getD_eq_getElem?_getD, List.getElem?_eq_getElem h]
set_option maxHeartbeats 4000000 in
theorem fold_tw (rs : List Rw) (ys : List Int) (f : FuncId) (caps : List CT) (num : Rw → Int) (hgo : InGo Tryz.prog f) (hf : ∀ r ∈ rs, Ok Tryz.prog f ([rowC r] ++ caps) (intC (num r))) (hl : rs.length ≤ 64) (hly : ys.length ≤ 64) (hn : ∀ r ∈ rs, (num r).natAbs ≤ 9007199254740992) (hy : ∀ y ∈ ys, y.natAbs ≤ 1000) :
    Ok Tryz.prog 97 [rowsC rs, twsC ys, .fr (closT f caps)] (.fr (tupT [twC (dot (rs.map num) ys), intC 0])) := by
  refine Ok.enter Tryz.func97 J _ Tryz.ntmps97 J ?_
  intro S w; refine Qy (Qx fun K hK => ?_); refine Qa 0 J J zvFrac J J J (Qj J J J (Qv (hK _ _ (Qz (Qy ?_))))); clear hK K; refine Qx (fun K hK => ?_); refine Qj J J J (Qv (hK _ _ (Qz (Qy (Qy ?_))))); clear hK K; refine Qx (fun K hK => ?_); refine Qq J J J (Q3 J J sRows.und (List.length_map ..) J (Qq J J J (Qv (hK _ _ (Qz (Q4 ?_)))))); clear hK K
  refine Zx 8 1 3 1 J J J ?_
  skip
  refine Qn (α := Nat) (fun i => i ≤ rs.length)
    (fun i => [(1, .ct (twsC ys)), (2, .ct (.fr (closT f caps))), (6, .own 0), (8, .own 1), (11, .ct (rowsC rs)), (12, .ct (intC rs.length)), (13, .ct (intC i))])
    (fun i => [(1, .row 3 1 (ints ((rs.take i).map num))), (0, .box 38 [.ex (.bool false), .ex (.slice none 0 0), .ex (.slice none 0 0)])]) (fun i => rs.length - i) 0 (Nat.zero_le _) (by exact QJ J ⟨rfl, rfl, rfl, rfl, rfl, rfl, rfl, trivial⟩) ?_
  intro i hi; dsimp only at hi ⊢; refine Qy (Qx fun K hK => ?_); refine Qk ilss J J J J (Qv (hK _ _ (Qz (Qy ?_)))); clear hK K; refine Q1 J (fun h => ?_) (fun h => ?_)
  · have e2 : (i : Int).toNat = i := Int.toNat_natCast i
    have hlt : i < rs.length := by omega
    refine Q0 (Qz (Qy (Q4 (Qy (Qx fun K hK => ?_)))))
    refine Qc J J J sRows (by omega) (ZQ (by omega) (by omega)) J ?_
    refine Xk (n := 2) J J J lRow J J (Qa 2 J J zvRow J J J (Q8 2 J J J J J szRow J J (Qv (hK _ _ (Qz ?_))))); clear hK K; refine Qx (fun K hK => ?_); refine Qq J J J (Qq J J J (Qd (n := 2) J J J J J lRow J ?_)); rw [e2]; skip; refine Ops.callC hgo J (hf (rs.getD i rw0) (Xj hlt)) J J J J (XZ J J sInts J J J (Qt i (ints ((rs.take (i + 1)).map num)) J J J J sInts (by simp [ints]; omega) J (by omega) (by omega) (by rw [Y1 num rw0 hlt]; simp [ints]) J ?_)); refine Qj J J J (Qv (hK _ _ (Qz ?_))); clear hK K; refine Qx (fun K hK => ?_)
    refine Qk (iadd (by omega) (by omega)) J J J J ?_
    refine Qq J J J (Qv (hK _ _ (Q7 ?_))); clear hK K; refine Xy 2 (Qb (i + 1) (by omega) (by omega) (by exact QJ J ⟨rfl, rfl, rfl, rfl, rfl, rfl, by simp only [Int.natCast_add]; rfl, trivial⟩))
  · have hi' : i = rs.length := by omega
    have e : (rs.take i).map num = rs.map num := by rw [hi', List.take_length]
    rw [e]; refine X6 1 _ J (X1 _ _) XV (Qm (Qz (Qy (Qx fun K hK => ?_)))); refine Qq J J J (Qq J J J ?_)
    refine QX goValue (Value_tw (rs.map num) ys (by simp; omega) hly (fun y hy' => by
      obtain ⟨r, hr, rfl⟩ := List.mem_map.mp hy'
      exact hn r hr) hy) J J J J ?_
    refine QZ J J J J (QZ J J J J (Q8 3 J J J J J szFrac J J (Qj J J J (Qv (hK _ _ (Qz (QU ?_))))))); clear hK K; refine QY [_, _] rfl (Qp (n := 3) J J Qg J (Qu J QQ)) J J
theorem gofold : InGo Tryz.prog 97 := InGo.of Tryz.func97 (by kernel_rfl) (by kernel_rfl)
theorem Combine1_ok (j : Nat) (r : Rw) : Ok Tryz.prog 98 ([rowC r] ++ [.fr (ptrT [intC j])]) (intC (r.cs.getD j 0)) := by
  refine Ok.enter Tryz.func98 J _ Tryz.ntmps98 J ?_
  intro S w; refine Qy (Qx fun K hK => ?_); refine Qh 0 J J J J J J J (Qj J J J (Qv (hK _ _ (Qz (Qy (Qy ?_)))))); clear hK K; refine Qx (fun K hK => ?_); refine Ql J J J lInt J (QW J J J fR0 J (QK J J J J J lInts J (Q3 J J sInts.und (List.length_map ..) J (Qk ilss J J J J (Qv (hK _ _ (Qz ?_))))))); clear hK K; refine Q1 J (fun h => ?_) (fun h => ?_)
  · have e2 : (j : Int).toNat = j := Int.toNat_natCast j; refine Qy (Qx fun K hK => ?_); refine QW J J J fR0 J (QK J J J J J lInts J (Ql J J J lInt J (Qc J J J sInts (by omega) (Xw (by omega) (by omega)) J ?_))); refine Ql J J J lInt J (Qj J J J (Qv (hK _ _ (Qz (QU (QV ?_)))))); clear hK K; rw [e2]; skip; refine QY [_] rfl (Qu J QQ) J J
  · refine Q0 (Qz (Qy (Qx fun K hK => ?_))); refine Qj J J J (Qv (hK _ _ (Qz (QU ?_)))); clear hK K; refine QY [_] rfl (Qu J QQ) (by rw [List.getD_eq_getElem?_getD, List.getElem?_eq_none (by omega)]; rfl) J
theorem goCombine1 : InGo Tryz.prog 98 := InGo.of Tryz.func98 (by kernel_rfl) (by kernel_rfl)
theorem Combine2_ok (r : Rw) : Ok Tryz.prog 99 [rowC r] (intC r.b) := by
  refine Ok.enter Tryz.func99 J _ Tryz.ntmps99 J ?_
  intro S w; refine Qy (Qx fun K hK => ?_); refine Qh 0 J J J J J J J (Qj J J J (Qv (hK _ _ (Qz (Qy ?_))))); clear hK K; refine Qx (fun K hK => ?_); refine QW J J J fR1 J (QK J J J J J lInt J (Qj J J J (Qv (hK _ _ (Qz (QU ?_)))))); clear hK K; refine QY [_] rfl (Qu J QQ) J J
theorem goCombine2 : InGo Tryz.prog 99 := InGo.of Tryz.func99 (by kernel_rfl) (by kernel_rfl)
def frs (ms : List Int) : List CT := (ms.map fun m => frCs (tf m)).flatten
theorem frs_len (ms : List Int) : (frs ms).length = ms.length * 3 := by
  unfold frs; rw [Xm (k := 3) (fun e he => by obtain ⟨m, _, rfl⟩ := List.mem_map.mp he; rfl)]; simp
theorem frs_snoc (ms : List Int) (m : Int) : frs (ms ++ [m]) = frs ms ++ frCs (tf m) := by simp [frs]
theorem frs_frozen (e : Nat) (ms : List Int) : (Ent.row e 3 (frs ms)).frozen (sliceT 3 (ms.map fun m => frCs (tf m))) :=
  ⟨_, rfl, fun e he => by obtain ⟨m, _, rfl⟩ := List.mem_map.mp he; rfl, by decide, rfl⟩
def col (rs : List Rw) (ys : List Int) (j : Nat) : Int := dot (rs.map fun r => r.cs.getD j 0) ys
def cols (rs : List Rw) (ys : List Int) (n : Nat) : List Int := (List.range n).map (col rs ys)
def bsum (rs : List Rw) (ys : List Int) : Int := dot (rs.map fun r => r.b) ys
theorem dot_bd {c x : List Int} (hl : x.length ≤ 64) (hc : ∀ y ∈ c, y.natAbs ≤ 9007199254740992) (hx : ∀ y ∈ x, y.natAbs ≤ 1000) : (dot c x).natAbs ≤ 576460752303423488000 := by
  have := dotN_bd (k := min c.length x.length) hc hx; unfold dot; have : min c.length x.length * 9007199254740992000 ≤ 64 * 9007199254740992000 := Nat.mul_le_mul_right _ (by omega); omega
set_option maxHeartbeats 4000000 in
theorem Combine_tw (n : Nat) (rs : List Rw) (ys : List Int) (hv : validR n rs = true) (hl : ys.length = rs.length) (hy : ∀ y ∈ ys, 0 ≤ y ∧ y ≤ 1000) :
    Ok Tryz.prog 40 [intC n, rowsC rs, twsC ys] (.fr (tupT [twsC (cols rs ys n), twC (bsum rs ys), intC 0])) := by
  obtain ⟨v1, v2, v3, v4⟩ := X4 hv
  have hy' : ∀ y ∈ ys, y.natAbs ≤ 1000 := fun y h => by have := hy y h; omega
  have hV := Zh n rs (by omega) (fun r hr => by have := (v4 r hr).1; omega); rw [hv] at hV; have hM := multipliers_tw rs ys hl v3 hy
  have hF : ∀ j : Nat, Ok Tryz.prog 97 [rowsC rs, twsC ys, .fr (closT 98 [.fr (ptrT [intC j])])] (.fr (tupT [twC (col rs ys j), intC 0])) := fun j =>
    fold_tw rs ys _ _ (fun r => r.cs.getD j 0) goCombine1 (fun r _ => Combine1_ok j r) v3 (by omega) (fun r hr => by
      rcases Nat.lt_or_ge j r.cs.length with h | h
      · have := (v4 r hr).2.1 (r.cs.getD j 0) (Xj h); omega
      · rw [List.getD_eq_getElem?_getD, List.getElem?_eq_none (by omega)]; decide) hy'
  have hB : Ok Tryz.prog 97 [rowsC rs, twsC ys, .ex (.func (.func 99) #[] #[])] (.fr (tupT [twC (bsum rs ys), intC 0])) :=
    (fold_tw rs ys _ [] (fun r => r.b) goCombine2 (fun r _ => Combine2_ok r) v3 (by omega) (fun r hr => by have := (v4 r hr).2.2; omega) hy').weak ⟨Z4, Z4, w_fun, trivial⟩
  refine Ok.enter Tryz.func40 J _ Tryz.ntmps40 J ?_
  intro S w; refine Qy (Qx fun K hK => ?_); refine Qj J J J (Qa 0 J J zvFrac J J J (Qj J J J (Qv (hK _ _ (Qz (Qy (Qy ?_))))))); clear hK K; refine Qx (fun K hK => ?_); refine Qq J J J (Qq J J J (QX goLValid hV J J J J (Qe J J J (Qv (hK _ _ (Qz (Qr J (Q0 (Qz (Qy (Qy ?_))))))))))); clear hK K; refine Qx (fun K hK => ?_); refine Qq J J J (Qq J J J (QX gomultipliers hM J J J J (Qe J J J (Qv (hK _ _ (Qz (Qr J (Q0 (Qz (Qy ?_)))))))))); clear hK K; refine Qx (fun K hK => ?_); refine Qj J J J (Qv (hK _ _ (Qz (Qy (Qy ?_))))); clear hK K; refine Qx (fun K hK => ?_); refine Qq J J J (Qq J J J (Qv (hK _ _ (Qz (Q4 ?_))))); clear hK K
  refine Zx 9 1 38 3 J J J ?_
  skip
  refine Qn (α := Nat) (fun i => i ≤ n)
    (fun i => [(1, .ct (rowsC rs)), (2, .ct (twsC ys)), (7, .own 0), (9, .own 1), (25, .ct (intC n)), (26, .ct (intC i))])
    (fun i => [(1, .row 38 3 (frs (cols rs ys i))), (0, .box 38 [.ex (.bool false), .ex (.slice none 0 0), .ex (.slice none 0 0)])]) (fun i => n - i) 0 (Nat.zero_le _) (by exact QJ J ⟨rfl, rfl, rfl, rfl, rfl, rfl, trivial⟩) ?_
  intro i hi; dsimp only at hi ⊢; refine Qy (Qx fun K hK => ?_); refine Qk ilss J J J J (Qv (hK _ _ (Qz (Qy ?_)))); clear hK K; refine Q1 J (fun h => ?_) (fun h => ?_)
  · refine Q0 (Qz (Qy (Q4 (Qy (Qx fun K hK => ?_))))); refine Qq J J J (Qa 2 J J zvInt J J J (Ops.st1O J J J J J zInt (Qv (hK _ _ (Qz (Qy ?_)))))); clear hK K; refine Qx (fun K hK => ?_); refine Qq J J J (Qq J J J (Zb 2 _ J J XV (Ops.makeFunc J J J (QX gofold (hF i) J J J J (Qq J J J (QZ J J J J (QZ J J J J (Qa 2 J J zvFrac J J J (Q8 3 J J J J J szFrac J J (Qj J J J (Qv (hK _ _ (Qz (Qy (Qy ?_))))))))))))))); clear hK K; refine Qx (fun K hK => ?_); refine Qq J J J (Qk ineq J J J J (Qv (hK _ _ (Qz (Qr J (Q0 (Qz ?_))))))); clear hK K; refine Qx (fun K hK => ?_); refine Qq J J J (Qd (n := 3) J J J J J Qg J (Ops.litN (n := 3) J J sFracs J J (by decide) J ?_))
    refine Qt i (frs (cols rs ys (i + 1))) J J J J sFracs (by rw [frs_len]; simp [cols]) J (by omega) (by omega) (by unfold cols; rw [List.range_succ, List.map_append]; exact frs_snoc _ _) J ?_
    refine Qj J J J (Qv (hK _ _ (Qz ?_))); clear hK K; refine Qx (fun K hK => ?_)
    refine Qk (iadd (by omega) (by omega)) J J J J ?_
    refine Qq J J J (Qv (hK _ _ (Q7 ?_))); clear hK K; refine Xy 2 (Qb (i + 1) (by omega) (by omega) (by exact QJ J ⟨rfl, rfl, rfl, rfl, rfl, by simp only [Int.natCast_add]; rfl, trivial⟩))
  · have hi' : i = n := by omega
    subst hi'; refine X6 1 _ J (frs_frozen _ _) XV (Qm (Qz (Qy (Qx fun K hK => ?_)))); refine Qq J J J (Qq J J J (QX gofold hB J J J J (Qq J J J (QZ J J J J (QZ J J J J (Qa 1 J J zvFrac J J J (Q8 3 J J J J J szFrac J J (Qj J J J (Qv (hK _ _ (Qz (Qy (Qy ?_))))))))))))); clear hK K; refine Qx (fun K hK => ?_); refine Qq J J J (Qk ineq J J J J (Qv (hK _ _ (Qz (Qr J (Q0 (Qz (Qy ?_)))))))); clear hK K; refine Xz mixed 3 (.p 0 (.p 2 (.f 1 (.a 3 (.p 4 .done))))) (by kernel_rfl) (fun K hK => ?_); refine Qq J J J (Qj J J J (Qd (n := 3) J J J J J Qg J (Q8 3 J J J J J szFrac J J (Qj J J J (Qv (hK _ _ (Qz (QU ?_)))))))); clear hK K; refine QY [_, _, _] rfl (Qu J (Qp (n := 3) J J Qg J (Qu J QQ))) J J
theorem goCombine : InGo Tryz.prog 40 := InGo.of Tryz.func40 (by kernel_rfl) (by kernel_rfl)
theorem less_tw (a b : Int) (ha : Tb a) (hb : Tb b) : Ok Tryz.prog 101 [twC a, twC b] (boolC (decide (a < b))) := by
  refine Ok.enter Tryz.func101 J _ Tryz.ntmps101 J ?_
  intro S w; refine Qy (Qx fun K hK => ?_); refine Qh 0 J J J J J J J (Qh 1 J J J J J J J (Qj J J J (Qv (hK _ _ (Qz (Qy ?_)))))); clear hK K; refine Qx (fun K hK => ?_); refine Qd (n := 3) J J J J J Qg J (Qd (n := 3) J J J J J Qg J (QX goFCompare (Compare_tw a b ha hb) J J J J (Qq J J J (QZ J J J J (QZ J J J J (Qj J J J (Qj J J J (Qv (hK _ _ (Qz (Qy ?_))))))))))); clear hK K; refine Qx (fun K hK => ?_); refine Qq J J J (Qk ilss J J J J (Qj J J J (Qv (hK _ _ (Qz (QU ?_)))))); clear hK K; refine QY [_] rfl (Qu J QQ) (by rw [show decide (a < b) = decide (cmpI a b < 0) by rw [decide_eq_decide, Yf]]; rfl) J
theorem goless : InGo Tryz.prog 101 := InGo.of Tryz.func101 (by kernel_rfl) (by kernel_rfl)
def covB (os c : List Int) : Bool := decide (c.length ≤ os.length) && (List.range os.length).all fun j => decide (12 * c.getD j 0 ≤ os.getD j 0)
set_option maxHeartbeats 4000000 in
theorem covers_tw (os c : List Int) (hl : os.length ≤ 64) (hlc : c.length ≤ 64) (ho : ∀ y ∈ os, Tb y) (hc : ∀ y ∈ c, y.natAbs ≤ 9007199254740992) : Ok Tryz.prog 100 [twsC os, intsC c] (boolC (covB os c)) := by
  refine Ok.enter Tryz.func100 J _ Tryz.ntmps100 J ?_
  intro S w; refine Qy (Qx fun K hK => ?_); refine Qj J J J (Qv (hK _ _ (Qz (Qy (Qy ?_))))); clear hK K; refine Qx (fun K hK => ?_); refine Qq J J J (Q3 J J sInts.und (List.length_map ..) J (Qq J J J (Q3 J J sFracs.und (List.length_map ..) J (Qk igtr J J J J (Qv (hK _ _ (Qz ?_))))))); clear hK K; refine Q1 J (fun h => ?_) (fun h => ?_)
  · refine Qy (Qx fun K hK => ?_); refine Qj J J J (Qv (hK _ _ (Qz (QU (QV ?_))))); clear hK K; refine QY [_] rfl (Qu J QQ) (by unfold covB; rw [decide_eq_false (show ¬ c.length ≤ os.length by omega)]; rfl) J
  have hle : c.length ≤ os.length := by omega
  clear h; refine Q0 (Qz (Qy (Qy (Qx fun K hK => ?_)))); refine Qq J J J (Q3 J J sFracs.und (List.length_map ..) J (Qq J J J (Qv (hK _ _ (Qz (Q4 ?_)))))); clear hK K
  refine Qn (α := Nat) (fun i => i ≤ os.length ∧ ∀ j, j < i → 12 * c.getD j 0 ≤ os.getD j 0)
    (fun i => [(1, .ct (intsC c)), (15, .ct (twsC os)), (16, .ct (intC os.length)), (17, .ct (intC i))]) (fun _ => []) (fun i => os.length - i) 0 ⟨Nat.zero_le _, fun j h => absurd h (Nat.not_lt_zero j)⟩ (by exact QJ J ⟨rfl, rfl, rfl, rfl, trivial⟩) ?_
  intro i ⟨hi, hj⟩; dsimp only at hi hj ⊢; refine Qy (Qx fun K hK => ?_); refine Qk ilss J J J J (Qv (hK _ _ (Qz (Qy ?_)))); clear hK K; refine Q1 J (fun h => ?_) (fun h => ?_)
  · have e2 : (i : Int).toNat = i := Int.toNat_natCast i
    have hlt : i < os.length := by omega
    have b0 := ho (os.getD i 0) (Xj hlt)
    have b1 : (c.getD i 0).natAbs ≤ 9007199254740992 := by
      rcases Nat.lt_or_ge i c.length with h | h
      · exact hc _ (Xj h)
      · rw [List.getD_eq_getElem?_getD, List.getElem?_eq_none (by omega)]; decide
    have hbad : 12 * c.getD i 0 > os.getD i 0 → covB os c = false := fun hgt => by
      unfold covB; rw [List.all_eq_false.mpr ⟨i, List.mem_range.mpr hlt, by simp only [decide_eq_true_eq]; omega⟩, Bool.and_false]
    have hgood : ¬ (12 * c.getD i 0 > os.getD i 0) → ∀ j, j < i + 1 → 12 * c.getD j 0 ≤ os.getD j 0 := fun hng j hj' => by
      rcases Nat.lt_or_ge j i with h3 | h3
      · exact hj j h3
      · have : j = i := by omega
        rw [this]; omega
    refine Q0 (Qz (Qy (Q4 (Qy (Qx fun K hK => ?_))))); refine Qq J J J (Qc J J J sFracs (by omega) (tws_at (by omega) (by omega)) J ?_); refine Xk (n := 3) J J J Qg J J (Qa 0 J J zvFrac J J J (Qj J J J (Q8 3 J J J J J szFrac J J (Qv (hK _ _ (Qz (Qy ?_))))))); clear hK K; refine Qx (fun K hK => ?_); refine Qj J J J (Qv (hK _ _ (Qz (Qy (Qy ?_))))); clear hK K; refine Qx (fun K hK => ?_); refine Qq J J J (Qq J J J (Q3 J J sInts.und (List.length_map ..) J (Qk ilss J J J J (Qv (hK _ _ (Qz ?_)))))); clear hK K; rw [e2]; skip; refine Q1 J (fun h3 => ?_) (fun h3 => ?_)
    · refine Qx (fun K hK => ?_); refine Qq J J J (Qq J J J (Qc J J J sInts (by omega) (Xw (by omega) (by omega)) J ?_)); refine Ql J J J lInt J (Qj J J J (Qv (hK _ _ (Qz (Qy ?_))))); clear hK K; refine Qx (fun K hK => ?_)
      refine Qq J J J ?_
      rw [e2]; skip
      refine QX Yc (From_tw (c.getD i 0) (by omega) (by omega)) J J J J ?_
      refine Qq J J J (QZ J J J J (QZ J J J J (Qa 1 J J zvFrac J J J (Q8 3 J J J J J szFrac J J (Qj J J J (Qv (hK _ _ (Qz (Qy ?_))))))))); clear hK K; refine Qx (fun K hK => ?_); refine Qd (n := 3) J J J J J Qg J (Qd (n := 3) J J J J J Qg J (QX goless (less_tw (os.getD i 0) (12 * c.getD i 0) b0 (by unfold Tb; omega)) J J J J ?_)); refine Qv (hK _ _ (Qz ?_)); clear hK K; refine Q1 J (fun h4 => ?_) (fun h4 => ?_)
      · refine Qy (Qx fun K hK => ?_); refine Qj J J J (Qv (hK _ _ (Qz (QU (Q5 (QV (QV (Q5 (QV ?_))))))))); clear hK K; refine QY [_] rfl (Qu J QQ) (by rw [hbad (by omega)]; rfl) J
      · refine Q0 (Qz (Qx fun K hK => ?_))
        refine Qk (iadd (by omega) (by omega)) J J J J ?_
        refine Qq J J J (Qv (hK _ _ (Q7 ?_))); clear hK K; refine Xy 1 (Xy 0 ?_); refine Qb (i + 1) (by omega) ⟨by omega, hgood (by omega)⟩ (by exact QJ J ⟨rfl, rfl, rfl, by simp only [Int.natCast_add]; rfl, trivial⟩)
    · have ec : c.getD i 0 = 0 := by rw [List.getD_eq_getElem?_getD, List.getElem?_eq_none (by omega)]; rfl
      refine Q0 (Qz (Qy (Qx fun K hK => ?_))); refine Qq J J J (QX Yc (From_tw 0 (by omega) (by omega)) J J J J ?_); refine Qq J J J (QZ J J J J (QZ J J J J (Qa 1 J J zvFrac J J J (Q8 3 J J J J J szFrac J J (Qj J J J (Qv (hK _ _ (Qz (Qy ?_))))))))); clear hK K; refine Qx (fun K hK => ?_); refine Qd (n := 3) J J J J J Qg J (Qd (n := 3) J J J J J Qg J (QX goless (less_tw (os.getD i 0) (12 * 0) b0 (by unfold Tb; omega)) J J J J ?_)); refine Qv (hK _ _ (Qz ?_)); clear hK K; refine Q1 J (fun h4 => ?_) (fun h4 => ?_)
      · refine Qy (Qx fun K hK => ?_); refine Qj J J J (Qv (hK _ _ (Qz (QU (Q5 (QV (QV (Q5 (QV ?_))))))))); clear hK K; refine QY [_] rfl (Qu J QQ) (by rw [hbad (by omega)]; rfl) J
      · refine Q0 (Qz (Qx fun K hK => ?_))
        refine Qk (iadd (by omega) (by omega)) J J J J ?_
        refine Qq J J J (Qv (hK _ _ (Q7 ?_))); clear hK K; refine Xy 1 (Xy 0 ?_); refine Qb (i + 1) (by omega) ⟨by omega, hgood (by omega)⟩ (by exact QJ J ⟨rfl, rfl, rfl, by simp only [Int.natCast_add]; rfl, trivial⟩)
  · have hi' : i = os.length := by omega
    refine Qm (Qz (Qy (Qx fun K hK => ?_))); refine Qj J J J (Qv (hK _ _ (Qz (QU ?_)))); clear hK K
    refine QY [_] rfl (Qu J QQ) (by
      unfold covB
      rw [decide_eq_true hle, List.all_eq_true.mpr (fun j hj2 => by have := hj j (by have := List.mem_range.mp hj2; omega); simpa using this)]; rfl) J
theorem gocovers : InGo Tryz.prog 100 := InGo.of Tryz.func100 (by kernel_rfl) (by kernel_rfl)
theorem Tb.of {m : Int} (h : m.natAbs ≤ 576460752303423488000) : Tb m := by unfold Tb; omega
theorem col_tb {n : Nat} {rs : List Rw} {ys : List Int} (hv : validR n rs = true) (hl : ys.length = rs.length) (hy : ∀ y ∈ ys, 0 ≤ y ∧ y ≤ 1000) (j : Nat) : (col rs ys j).natAbs ≤ 576460752303423488000 := by
  obtain ⟨v1, v2, v3, v4⟩ := X4 hv; refine dot_bd (by omega) (fun y hy' => ?_) (fun y h => by have := hy y h; omega); obtain ⟨r, hr, rfl⟩ := List.mem_map.mp hy'; rcases Nat.lt_or_ge j r.cs.length with h | h
  · have := (v4 r hr).2.1 (r.cs.getD j 0) (Xj h); omega
  · rw [List.getD_eq_getElem?_getD, List.getElem?_eq_none (by omega)]; decide
theorem bsum_tb {n : Nat} {rs : List Rw} {ys : List Int} (hv : validR n rs = true) (hl : ys.length = rs.length) (hy : ∀ y ∈ ys, 0 ≤ y ∧ y ≤ 1000) : (bsum rs ys).natAbs ≤ 576460752303423488000 := by
  obtain ⟨v1, v2, v3, v4⟩ := X4 hv; refine dot_bd (by omega) (fun y hy' => ?_) (fun y h => by have := hy y h; omega); obtain ⟨r, hr, rfl⟩ := List.mem_map.mp hy'; have := (v4 r hr).2.2; omega
theorem covers_cols {n : Nat} {rs : List Rw} {ys : List Int} (hv : validR n rs = true) (hl : ys.length = rs.length) (hy : ∀ y ∈ ys, 0 ≤ y ∧ y ≤ 1000) (c : List Int) (hlc : c.length ≤ 64) (hc : ∀ y ∈ c, y.natAbs ≤ 9007199254740992) : Ok Tryz.prog 100 [twsC (cols rs ys n), intsC c] (boolC (covB (cols rs ys n) c)) := by
  obtain ⟨v1, v2, v3, v4⟩ := X4 hv; refine covers_tw _ c (by simp [cols]; omega) hlc (fun y hy' => ?_) hc; obtain ⟨j, _, rfl⟩ := List.mem_map.mp hy'; exact Tb.of (col_tb hv hl hy j)
set_option maxHeartbeats 4000000 in
theorem Bounds_tw (n : Nat) (rs : List Rw) (c ys : List Int) (most : Int) (hv : validR n rs = true) (hl : ys.length = rs.length) (hy : ∀ y ∈ ys, 0 ≤ y ∧ y ≤ 1000) (hlc : c.length ≤ 64) (hc : ∀ y ∈ c, y.natAbs ≤ 9007199254740992) (hm : Tb most) :
    Ok Tryz.prog 41 [intC n, rowsC rs, intsC c, twsC ys, twC most] (boolC (covB (cols rs ys n) c && !decide (most < bsum rs ys))) := by
  have h1 := Combine_tw n rs ys hv hl hy; have h2 := covers_cols hv hl hy c hlc hc; have h3 := less_tw most (bsum rs ys) hm (Tb.of (bsum_tb hv hl hy)); generalize cols rs ys n = os at *; generalize bsum rs ys = bs at *
  refine Ok.enter Tryz.func41 J _ Tryz.ntmps41 J ?_
  intro S w; refine Qy (Qx fun K hK => ?_); refine Qh 0 J J J J J J J (Qj J J J (Qv (hK _ _ (Qz (Qy ?_))))); clear hK K; refine Qx (fun K hK => ?_); refine Qq J J J (Qq J J J (Qq J J J (QX goCombine h1 J J J J (Qq J J J (QZ J J J J (QZ J J J J (QZ J J J J (Qa 1 J J zvFrac J J J (Qj J J J (Q8 3 J J J J J szFrac J J (Qj J J J (Qv (hK _ _ (Qz (Qy ?_))))))))))))))); clear hK K; refine Qx (fun K hK => ?_); refine Qq J J J (Qk ieql J J J J (Qq J J J (Qd (n := 3) J J J J J Qg J (QX Yx (Valid_tw most hm) J J J J (Q6 J J J J (Qq J J J (Qq J J J (Qq J J J (QX gocovers h2 J J J J (Q6 J J J J (Qq J J J (Xe 33 J (fun h => ?_) (fun h => ?_)))))))))))))
  · refine Qd (n := 3) J J J J J Qg J (Qd (n := 3) J J J J J Qg J (QX goless h3 J J J J (Qe J J J (Q6 J J J J (Qj J J J (Qv (hK _ _ (Qz (QU ?_))))))))); clear hK K; refine QY [_] rfl (Qu J QQ) (by rw [h]; rfl) J
  · refine Qw J J J (Qw J J J (Qw J J J (Qw J J J (Q2 J J J J (Qj J J J (Qv (hK _ _ (Qz (QU ?_))))))))); clear hK K; refine QY [_] rfl (Qu J QQ) (by rw [h]; rfl) J
theorem goBounds : InGo Tryz.prog 41 := InGo.of Tryz.func41 (by kernel_rfl) (by kernel_rfl)
set_option maxHeartbeats 4000000 in
theorem Refutes_tw (n : Nat) (rs : List Rw) (ys : List Int) (hv : validR n rs = true) (hl : ys.length = rs.length) (hy : ∀ y ∈ ys, 0 ≤ y ∧ y ≤ 1000) :
    Ok Tryz.prog 49 [intC n, rowsC rs, twsC ys] (boolC (decide (bsum rs ys < 0) && covB (cols rs ys n) [])) := by
  have h1 := Combine_tw n rs ys hv hl hy; have h2 := (covers_cols hv hl hy [] (by simp) (fun y h => by cases h)).weak (As' := [_, .ex (.slice none 0 0)]) ⟨Z4, w_nil, trivial⟩; have h3 := tf_neg (bsum rs ys); generalize cols rs ys n = os at *; generalize bsum rs ys = bs at *
  refine Ok.enter Tryz.func49 J _ Tryz.ntmps49 J ?_
  intro S w; refine Qy (Qx fun K hK => ?_); refine Qj J J J (Qv (hK _ _ (Qz (Qy ?_)))); clear hK K; refine Qx (fun K hK => ?_); refine Qq J J J (Qq J J J (Qq J J J (QX goCombine h1 J J J J (Qq J J J (QZ J J J J (QZ J J J J (QZ J J J J (Qa 0 J J zvFrac J J J (Qj J J J (Q8 3 J J J J J szFrac J J (Qj J J J (Qv (hK _ _ (Qz (Qy ?_))))))))))))))); clear hK K; refine Qx (fun K hK => ?_); refine Qq J J J (Qk ieql J J J J (Qq J J J (QW J J J fF0 J (QK J J J J J lBool J (Q6 J J J J (Qq J J J (Xe 24 J (fun h => ?_) (fun h => ?_))))))))
  · refine Qq J J J (QX gocovers h2 J J J J (Q6 J J J J (Qj J J J (Qv (hK _ _ (Qz (QU ?_))))))); clear hK K; refine QY [_] rfl (Qu J QQ) (by rw [← h3, h]; rfl) J
  · refine Qw J J J (Qw J J J (Q2 J J J J (Qj J J J (Qv (hK _ _ (Qz (QU ?_))))))); clear hK K; refine QY [_] rfl (Qu J QQ) (by rw [← h3, h]; rfl) J
theorem goRefutes : InGo Tryz.prog 49 := InGo.of Tryz.func49 (by kernel_rfl) (by kernel_rfl)
set_option maxHeartbeats 4000000 in
theorem Ceiling_tw (n : Nat) (rs : List Rw) (c ys : List Int) (hv : validR n rs = true) (hl : ys.length = rs.length) (hy : ∀ y ∈ ys, 0 ≤ y ∧ y ≤ 1000) (hlc : c.length ≤ 64) (hc : ∀ y ∈ c, y.natAbs ≤ 9007199254740992) (hb : (bsum rs ys).natAbs < 4611686018427387904) :
    Ok Tryz.prog 42 [intC n, rowsC rs, intsC c, twsC ys] (.fr (tupT [intC (if covB (cols rs ys n) c then bsum rs ys / 12 else 0), boolC (covB (cols rs ys n) c)])) := by
  have h1 := Combine_tw n rs ys hv hl hy; have h2 := Bounds_tw n rs c ys (bsum rs ys) hv hl hy hlc hc (Tb.of (bsum_tb hv hl hy)); rw [decide_eq_false (Int.lt_irrefl _), Bool.not_false, Bool.and_true] at h2; have h3 := Floor_tw (bsum rs ys) hb; generalize cols rs ys n = os at *; generalize bsum rs ys = bs at *
  refine Ok.enter Tryz.func42 J _ Tryz.ntmps42 J ?_
  intro S w; refine Qy (Qx fun K hK => ?_); refine Qj J J J (Qj J J J (Qv (hK _ _ (Qz (Qy ?_))))); clear hK K; refine Qx (fun K hK => ?_); refine Qq J J J (Qq J J J (Qq J J J (QX goCombine h1 J J J J (Qq J J J (QZ J J J J (QZ J J J J (QZ J J J J (Qa 0 J J zvFrac J J J (Qj J J J (Q8 3 J J J J J szFrac J J (Qj J J J (Qv (hK _ _ (Qz (Qy (Qy ?_)))))))))))))))); clear hK K; refine Qx (fun K hK => ?_); refine Qq J J J (Qk ineq J J J J (Qq J J J (Qq J J J (Qq J J J (Qq J J J (Qq J J J (Qd (n := 3) J J J J J Qg J (QX goBounds h2 J J J J (Qe J J J (Q2 J J J J (Qv (hK _ _ (Qz ?_))))))))))))); clear hK K; refine Zz J (fun h => ?_) (fun h => ?_)
  · have h' : covB os c = false := by simpa using h
    refine Qy (Qx fun K hK => ?_); refine Qj J J J (Qj J J J (Qv (hK _ _ (Qz (QU (QV ?_)))))); clear hK K; refine QY [_, _] rfl (Qu J (Qu J QQ)) (by rw [h']; rfl) J
  · have h' : covB os c = true := by simpa using h
    refine Q0 (Qz (Qy (Qx fun K hK => ?_))); refine Qd (n := 3) J J J J J Qg J (QX goFFloor h3 J J J J (Qq J J J (QZ J J J J (QZ J J J J (Qj J J J (Qj J J J (Qv (hK _ _ (Qz (Qy (Qy ?_))))))))))); clear hK K; refine Qx (fun K hK => ?_); refine Qq J J J (Qk ineq J J J J (Qv (hK _ _ (Qz (Qr J (Q0 (Qz (Qy ?_)))))))); clear hK K; refine Qx (fun K hK => ?_); refine Qq J J J (Qj J J J (Qj J J J (Qv (hK _ _ (Qz (QU ?_)))))); clear hK K; refine QY [_, _] rfl (Qu J (Qu J QQ)) (by rw [h']; rfl) J
theorem goCeiling : InGo Tryz.prog 42 := InGo.of Tryz.func42 (by kernel_rfl) (by kernel_rfl)
def pruned (ys : List Int) : Nat → List Int
  | 0 => []
  | i + 1 => if ys.getD i 0 = 0 then pruned ys i else pruned ys i ++ [(i : Int)]
theorem pruned_len (ys : List Int) (i : Nat) : (pruned ys i).length ≤ i := by
  induction i with
  | zero => simp [pruned]
  | succ i ih => simp only [pruned]; split
                 · omega
                 · simp; omega
set_option maxHeartbeats 4000000 in
theorem Prune_tw (n : Nat) (rs : List Rw) (ys : List Int) (hv : validR n rs = true) (hl : ys.length = rs.length) (hy : ∀ y ∈ ys, 0 ≤ y ∧ y ≤ 1000) : Ok Tryz.prog 51 [intC n, rowsC rs, twsC ys] (intsC (pruned ys ys.length)) := by
  obtain ⟨v1, v2, v3, v4⟩ := X4 hv; have hV := Zh n rs (by omega) (fun r hr => by have := (v4 r hr).1; omega); rw [hv] at hV; have hM := multipliers_tw rs ys hl v3 hy
  refine Ok.enter Tryz.func51 J _ Tryz.ntmps51 J ?_
  intro S w; refine Qy (Qx fun K hK => ?_); refine Qj J J J (Qv (hK _ _ (Qz (Qy (Qy ?_))))); clear hK K; refine Qx (fun K hK => ?_); refine Qq J J J (Qq J J J (QX goLValid hV J J J J (Qe J J J (Qq J J J (Qq J J J (Qq J J J (QX gomultipliers hM J J J J (Qe J J J (Q2 J J J J (Qv (hK _ _ (Qz (Qr J (Q0 (Qz (Qy ?_)))))))))))))))); clear hK K; refine Qx (fun K hK => ?_); refine Qj J J J (Qv (hK _ _ (Qz (Qy (Qy ?_))))); clear hK K; refine Qx (fun K hK => ?_); refine Qq J J J (Q3 J J sFracs.und (List.length_map ..) J (Qq J J J (Qv (hK _ _ (Qz (Q4 ?_)))))); clear hK K
  refine Zx 7 0 3 1 J J J ?_
  skip
  refine Qn (α := Nat) (fun i => i ≤ ys.length)
    (fun i => [(7, .own 0), (20, .ct (twsC ys)), (21, .ct (intC ys.length)), (22, .ct (intC i))]) (fun i => [(0, .row 3 1 (ints (pruned ys i)))]) (fun i => ys.length - i) 0 (Nat.zero_le _) (by exact QJ J ⟨rfl, rfl, rfl, rfl, trivial⟩) ?_
  intro i hi; dsimp only at hi ⊢; refine Qy (Qx fun K hK => ?_); refine Qk ilss J J J J (Qv (hK _ _ (Qz (Qy ?_)))); clear hK K; refine Q1 J (fun h => ?_) (fun h => ?_)
  · have e2 : (i : Int).toNat = i := Int.toNat_natCast i; have hn := tf_num_zero (ys.getD i 0); have hn2 := limbs_len_pos (n := (tf (ys.getD i 0)).num); have hpl := pruned_len ys i; refine Q0 (Qz (Qy (Q4 (Qy (Qx fun K hK => ?_))))); refine Qq J J J (Qc J J J sFracs (by omega) (tws_at (by omega) (by omega)) J ?_); refine Xk (n := 3) J J J Qg J J (Qa 1 J J zvFrac J J J (Qj J J J (Q8 3 J J J J J szFrac J J (Qv (hK _ _ (Qz (Qy ?_))))))); clear hK K; refine Qx (fun K hK => ?_); refine QW J J J fF1 J (QK J J J J J lNat J (Q3 J J sNat.und (List.length_map ..) J (Qk igtr J J J J (Qv (hK _ _ (Qz ?_)))))); clear hK K; rw [e2]; skip; refine Q1 J (fun h2 => ?_) (fun h2 => ?_)
    · have e3 : pruned ys (i + 1) = pruned ys i ++ [(i : Int)] := by simp only [pruned]; rw [if_neg (fun h3 => by have := hn.mpr h3; omega)]
      refine Qx (fun K hK => ?_); refine Qq J J J (Qq J J J (XZ J J sInts J J J (Qt (pruned ys i).length (ints (pruned ys (i + 1))) J J J J sInts (by simp [ints]) J (by omega) (by omega) (by rw [e3]; simp [ints]) J ?_))); refine Qj J J J (Qv (hK _ _ (Qz ?_))); clear hK K; refine Qx (fun K hK => ?_)
      refine Qk (iadd (by omega) (by omega)) J J J J ?_
      refine Qq J J J (Qv (hK _ _ (Q7 ?_))); clear hK K; refine Xy 1 (Qb (i + 1) (by omega) (by omega) (by exact QJ J ⟨rfl, rfl, rfl, by simp only [Int.natCast_add]; rfl, trivial⟩))
    · have e3 : pruned ys (i + 1) = pruned ys i := by simp only [pruned]; rw [if_pos (hn.mp (by omega))]
      refine Q0 (Qz (Qx fun K hK => ?_))
      refine Qk (iadd (by omega) (by omega)) J J J J ?_
      refine Qq J J J (Qv (hK _ _ (Q7 ?_))); clear hK K; refine Xy 1 (Qb (i + 1) (by omega) (by omega) (by rw [e3]; exact QJ J ⟨rfl, rfl, rfl, by simp only [Int.natCast_add]; rfl, trivial⟩))
  · have hi' : i = ys.length := by omega
    subst hi'; refine X6 0 _ J (X1 _ _) XV (Qm (Qz (Qy (Qx fun K hK => ?_)))); refine Qq J J J (Qj J J J (Qv (hK _ _ (Qz (QU ?_))))); clear hK K; refine QY [_] rfl (Qu J QQ) J J
theorem goPrune : InGo Tryz.prog 51 := InGo.of Tryz.func51 (by kernel_rfl) (by kernel_rfl)
theorem tf_lend (m : Int) : (limbs (tf m).den).length ≤ 1000 := Nat.le_trans (tf_szd m) (by decide)
theorem gorFloor : InGo Tryz.prog 43 := InGo.of Tryz.func43 (by kernel_rfl) (by kernel_rfl)
attribute [local irreducible] OkB OkN wpA
theorem gowhole : InGo Tryz.prog 46 := InGo.of Tryz.func46 rfl (by decide)
set_option maxHeartbeats 2000000 in
theorem lwhole_ok (n : Int) (h1 : -9223372036854775808 ≤ n) (h2 : n ≤ 9223372036854775807) : Ok Tryz.prog 46 [intC n] (twC (12 * n)) := by
  have hF := rFrom_ok n 1 h1 h2 (by decide) (by decide) (by decide); rw [tw_one] at hF; have hF : Ok Tryz.prog 57 [intC n, intC 1] (.fr (tupT [twC (12 * n), intC 0])) := hF
  refine Ok.enter Tryz.func46 J _ Tryz.ntmps46 J ?_
  intro S w; refine Qy (Qx fun K hK => ?_); refine Qa 0 J J zvFrac J J J (Qv (hK _ _ (Qz (Qy ?_)))); clear hK K; refine Qx (fun K hK => ?_); refine Qq J J J (QX gorFrom hF J J J J (Qq J J J (QZ J J J J (QZ J J J J (Qa 1 J J zvFrac J J J (Q8 3 J J J J J szFrac J J (Qj J J J (Qv (hK _ _ (Qz (Qy ?_))))))))))); clear hK K; refine Qx (fun K hK => ?_); refine Qd (n := 3) J J J J J Qg J (Q8 3 J J J J J szFrac J J (Qv (hK _ _ (Qz (QU ?_))))); clear hK K; refine QY [_] rfl (Qp (n := 3) J J Qg J QQ) J J
theorem goEqual : InGo Tryz.prog 19 := InGo.of Tryz.func19 rfl (by decide)
set_option maxHeartbeats 4000000 in
theorem Equal_refl (f : Fr) (hn : (limbs f.num).length ≤ 1000) (hd : (limbs f.den).length ≤ 1000) : Ok Tryz.prog 19 [fracC f, fracC f] (boolC true) := by
  refine Ok.enter Tryz.func19 J _ Tryz.ntmps19 J ?_
  intro S w; refine Qy (Qx fun K hK => ?_); refine Qh 0 J J J J J J J (Qh 1 J J J J J J J (Qj J J J (Qv (hK _ _ (Qz (Qy (Qy ?_))))))); clear hK K; refine Qx (fun K hK => ?_); refine QW J J J fF0 J (QK J J J J J lBool J (QW J J J fF0 J (QK J J J J J lBool J (YX J J J uBool J (Qq J J J (Qi 12 J (fun h => absurd J h) (fun _ => ?_))))))); refine QW J J J fF1 J (QK J J J J J lNat J (Q3 J J sNat.und (List.length_map ..) J (QW J J J fF1 J (QK J J J J J lNat J (Q3 J J sNat.und (List.length_map ..) J (Qk ineq J J J J (Q2 J J J J (Qq J J J (Qi 21 J (fun h => absurd J h) (fun _ => ?_)))))))))); refine QW J J J fF2 J (QK J J J J J lNat J (Q3 J J sNat.und (List.length_map ..) J (QW J J J fF2 J (QK J J J J J lNat J (Q3 J J sNat.und (List.length_map ..) J (Qk ineq J J J J (Q2 J J J J (Qv (hK _ _ (Qz ?_)))))))))); clear hK K; refine Q1 J (fun h => absurd J h) (fun _ => ?_); refine Q0 (Qz (Qy (Qy (Qx fun K hK => ?_)))); refine Qj J J J (Qv (hK _ _ (Qz (Q4 ?_)))); clear hK K
  refine Qn (α := Nat) (fun k => k ≤ (limbs f.num).length)
    (fun k => [(2, .own 0), (3, .own 1), (5, .ct (intC k))]) (fun _ => [(1, .box 38 (frCs f)), (0, .box 38 (frCs f))]) (fun k => (limbs f.num).length - k) 0 (Nat.zero_le _) (by exact QJ J ⟨rfl, rfl, rfl, trivial⟩) ?_
  intro k hk; dsimp only at hk ⊢; refine Qy (Qy (Qx fun K hK => ?_)); refine Qq J J J (QW J J J fF1 J (QK J J J J J lNat J (Q3 J J sNat.und (List.length_map ..) J (Qk ilss J J J J (Qv (hK _ _ (Qz ?_))))))); clear hK K; refine Q1 J (fun h => ?_) (fun h => ?_)
  · refine Q0 (Qz (Qy (Q4 (Qy ?_)))); refine Xz mixed 11 (.p 0 (.p 2 (.p 5 (.p 7 (.f 1 (.p 3 (.f 4 (.f 6 (.p 8 (.f 9 (.p 10 .done))))))))))) (by kernel_rfl) (fun K hK => ?_); refine QW J J J fF1 J (Qq J J J (QW J J J fF1 J (Qq J J J (QK J J J J J lNat J (Qc J J J sNat (by omega) (Xw (by omega) (by omega)) J ?_))))); refine Ql J J J lInt J (QK J J J J J lNat J (Qc J J J sNat (by omega) (Xw (by omega) (by omega)) J ?_)); refine Ql J J J lInt J (Qk ineq J J J J (Qv (hK _ _ (Qz ?_)))); clear hK K; refine Q1 J (fun h => absurd J h) (fun _ => ?_); refine Q0 (Qz (Qx fun K hK => ?_)); refine Qq J J J (Qk (iadd (by omega) (by omega)) J J J J ?_); refine Qj J J J (Qv (hK _ _ (Q7 ?_))); clear hK K; refine Qb (k + 1) (by omega) (by omega) (by exact QJ J ⟨rfl, rfl, by simp only [Int.natCast_add]; rfl, trivial⟩)
  · refine Qm (Qz (Qy (Qy (Qx fun K hK => ?_)))); refine Qj J J J (Qv (hK _ _ (Qz (Q4 ?_)))); clear hK K
    refine Qn (α := Nat) (fun k => k ≤ (limbs f.den).length)
      (fun k => [(2, .own 0), (3, .own 1), (6, .ct (intC k))]) (fun _ => [(1, .box 38 (frCs f)), (0, .box 38 (frCs f))]) (fun k => (limbs f.den).length - k) 0 (Nat.zero_le _) (by exact QJ J ⟨rfl, rfl, rfl, trivial⟩) ?_
    intro k hk; dsimp only at hk ⊢; refine Qy (Qy (Qx fun K hK => ?_)); refine Qq J J J (QW J J J fF2 J (QK J J J J J lNat J (Q3 J J sNat.und (List.length_map ..) J (Qk ilss J J J J (Qv (hK _ _ (Qz ?_))))))); clear hK K; refine Q1 J (fun h => ?_) (fun h => ?_)
    · refine Q0 (Qz (Qy (Q4 (Qy ?_)))); refine Xz mixed 11 (.p 0 (.p 2 (.p 5 (.p 7 (.f 1 (.p 3 (.f 4 (.f 6 (.p 8 (.f 9 (.p 10 .done))))))))))) (by kernel_rfl) (fun K hK => ?_); refine QW J J J fF2 J (Qq J J J (QW J J J fF2 J (Qq J J J (QK J J J J J lNat J (Qc J J J sNat (by omega) (Xw (by omega) (by omega)) J ?_))))); refine Ql J J J lInt J (QK J J J J J lNat J (Qc J J J sNat (by omega) (Xw (by omega) (by omega)) J ?_)); refine Ql J J J lInt J (Qk ineq J J J J (Qv (hK _ _ (Qz ?_)))); clear hK K; refine Q1 J (fun h => absurd J h) (fun _ => ?_); refine Q0 (Qz (Qx fun K hK => ?_)); refine Qq J J J (Qk (iadd (by omega) (by omega)) J J J J ?_); refine Qj J J J (Qv (hK _ _ (Q7 ?_))); clear hK K; refine Qb (k + 1) (by omega) (by omega) (by exact QJ J ⟨rfl, rfl, by simp only [Int.natCast_add]; rfl, trivial⟩)
    · refine Qm (Qz (Qy (Qx fun K hK => ?_))); refine Qj J J J (Qv (hK _ _ (Qz (QU ?_)))); clear hK K; refine QY [_] rfl (Qu J QQ) J J
end Go.Proofs.YtdhmbgogmoaofaaGreat
namespace Go.Proofs.YtdhmbgogmoaofaaGreat
open Go.Own
attribute [local irreducible] St Ops Go.Own.Fin Ok OkB OkN
theorem sBytes : SlcT Tryz.prog 22 5 1 1 (.int .u8 0) := SlcT.of Tryz.underlying22 (by kernel_rfl) rfl (by decide)
theorem lBytes : Ld1 Tryz.prog 22 := Ld1.of _ Tryz.underlying22 rfl
theorem lU8 : Ld1 Tryz.prog 5 := Ld1.of _ Tryz.underlying5 rfl
theorem uU8 : Tryz.prog.underlying 5 = some (.int .u8) := Tryz.underlying5
theorem uInt : Tryz.prog.underlying 3 = some (.int .i64) := Tryz.underlying3
theorem fC0 : fldInfo Tryz.prog 82 0 = some (0, some 1) := by kernel_rfl
theorem fC1 : fldInfo Tryz.prog 82 1 = some (1, some 1) := by kernel_rfl
theorem bCodes : bInfo Tryz.prog 82 = some (.agg #[.slice none 0 0, .int .i64 0], [(0, some 1), (1, some 1)]) := by kernel_rfl
abbrev bytesC (bs : List Int) : CT := .fr (sliceT 1 (bs.map fun b => [CT.ex (.int .u8 b)]))
abbrev codes (bs : List Int) (p : Nat) : List CT := [bytesC bs, intC p]
structure Bytes (bs : List Int) : Prop where
  lo : ∀ b ∈ bs, 0 ≤ b
  hi : ∀ b ∈ bs, b < 256
  len : bs.length ≤ 400
theorem bytes_at {bs : List Int} {j : Int} (h0 : 0 ≤ j) (h : j < (bs.length : Int)) : (bs.map fun b => [CT.ex (.int .u8 b)])[j.toNat]? = some [CT.ex (.int .u8 (bs.getD j.toNat 0))] := by
  have hl : j.toNat < bs.length := by omega
  rw [List.getElem?_map, List.getElem?_eq_getElem hl, List.getD_eq_getElem?_getD, List.getElem?_eq_getElem hl]; rfl
theorem Bytes.at {bs : List Int} (h : Bytes bs) (j : Nat) : 0 ≤ bs.getD j 0 ∧ bs.getD j 0 < 256 := by
  rw [List.getD_eq_getElem?_getD]
  cases e : bs[j]? with
  | none => simp
  | some b =>
    have := List.mem_of_getElem? e; exact ⟨h.lo b this, h.hi b this⟩
theorem goNext : InGo Tryz.prog 16 := InGo.of Tryz.func16 rfl (by decide)
set_option maxHeartbeats 2000000 in
theorem Next_ok (bs : List Int) (p : Nat) (n : Int) (h1 : 1 ≤ n) (h2 : n ≤ 256) (hb : Bytes bs) :
    OkB Tryz.prog 16 82 (codes bs p) [intC n] (fun q : Int × Nat => 0 ≤ q.1 ∧ q.1 < n) (fun q => intC q.1) (fun q => codes bs q.2) := by
  have hlen := hb.len
  refine OkB.enter Tryz.func16 J _ Tryz.ntmps16 J ?_
  intro S w g; refine Qy (Qx fun K hK => ?_); refine Qj J J J (Qv (hK _ _ (Qz (Qy (Qy ?_))))); clear hK K; refine Xz mixed 14 (.p 0 (.p 1 (.p 2 (.p 4 (.p 5 (.p 6 (.f 3 (.f 7 (.p 8 (.p 9 (.p 10 (.p 11 (.p 12 (.p 13 .done)))))))))))))) (by kernel_rfl) (fun K hK => ?_); refine Qq J J J (Yy J J J J (QW J J J fC1 J (Qq J J J (Yy J J J J (QW J J J fC0 J (QK J J J J J lInt J (QK J J J J J lBytes J (Q3 J J sBytes.und (List.length_map ..) J (Qk igeq J J J J (Qq J J J (Qi 16 J (fun h => ?_) (fun h => ?_))))))))))))
  · refine Qw J J J (Qw J J J (Q6 J J J J (Qv (hK _ _ (Qz (Xq J (Qy ?_))))))); clear hK K; refine Qx (fun K hK => ?_); refine Qj J J J (Qv (hK _ _ (Qz (QU (QV ?_))))); clear hK K; refine Fin.retB (0, p) [_] rfl (Qu J QQ) J J ⟨by show (0 : Int) ≤ 0; omega, by show (0 : Int) < n; omega⟩
  · refine Qq J J J (Qk ilss J J J J (Q2 J J J J (Qv (hK _ _ (Qz ?_))))); clear hK K; refine Q1 J (fun h' => ?_) (fun h' => ?_)
    · exact absurd h' (by omega)
    · refine Q0 (Qz (Qy ?_)); refine Xz mixed 12 (.p 0 (.p 1 (.p 2 (.p 4 (.p 5 (.p 6 (.f 3 (.f 7 (.p 8 (.f 9 (.p 10 (.p 11 .done)))))))))))) (by kernel_rfl) (fun K hK => ?_); refine Qq J J J (Yy J J J J (QW J J J fC0 J (Qq J J J (Yy J J J J (QW J J J fC1 J (QK J J J J J lBytes J (QK J J J J J lInt J (Qc J J J sBytes (by omega) (bytes_at (by omega) (by omega)) J ?_))))))))
      refine Ql J J J lU8 J ?_
      have hx := hb.at p; generalize he : bs.getD p 0 = x at hx
      refine Zf (q := x) J J uU8 uInt (by rw [Int.toNat_natCast, he]; exact Ze (by omega) (by omega)) J ?_
      refine Qj J J J (Qv (hK _ _ (Qz (Qy ?_)))); clear hK K; refine Qx (fun K hK => ?_); refine Qq J J J (Yy J J J J (QW J J J fC1 J (QK J J J J J lInt J (Qk (iadd (by omega) (by omega)) J J J J ?_)))); refine Yy J J J J (QW J J J fC1 J (Xv J J J J J zInt (by simp [Ent.cs]) ?_)); refine Qv (hK _ _ (Qz (Qy (Qy ?_)))); clear hK K; refine Qx (fun K hK => ?_); refine Qq J J J (Qk igtr J J J J (Qv (hK _ _ (Qz ?_)))); clear hK K; refine Q1 J (fun h' => ?_) (fun h' => ?_)
      · exact absurd h' (by omega)
      · refine Q0 (Qz (Qy (Qx fun K hK => ?_))); refine Qq J J J (Qq J J J (Qk (irem (by omega) (by omega)) J J J J ?_)); refine Qj J J J (Qv (hK _ _ (Qz (QU ?_)))); clear hK K; refine Fin.retB (x % n, p + 1) [_] rfl (Qu J QQ) J J ⟨Int.emod_nonneg _ (by omega), Int.emod_lt_of_pos _ (by omega)⟩
theorem goNew : InGo Tryz.prog 56 := InGo.of Tryz.func56 rfl (by decide)
theorem New_ok (bs : List Int) : OkN Tryz.prog 56 [bytesC bs, intC 400] 82 (codes (bs.take 400) 0) := by
  refine OkN.enter Tryz.func56 J _ Tryz.ntmps56 J ?_
  intro S w; refine Qy (Qx fun K hK => ?_); refine Qj J J J (Qv (hK _ _ (Qz (Qy (Qy ?_))))); clear hK K; refine Qx (fun K hK => ?_); refine Qq J J J (Q3 J J sBytes.und (List.length_map ..) J (Qq J J J (Qk igtr J J J J (Qv (hK _ _ (Qz ?_)))))); clear hK K; refine Q1 J (fun h' => ?_) (fun h' => ?_)
  · refine Qx (fun K hK => ?_); refine Qq J J J (Qq J J J (Ops.cutHi J J J sBytes (by omega) (by rw [List.length_map]; omega) J ?_)); rw [← List.map_take]; refine Qj J J J (Qv (hK _ _ (Qz (Qy ?_)))); clear hK K; refine Qx (fun K hK => ?_); refine Qq J J J (Xa J bCodes J (.one J J J J .nil) J (Qh 0 J J J J J J J (Qj J J J (Qv (hK _ _ (Qz (QU ?_))))))); clear hK K; refine Fin.retN J J J J
  · refine Q0 (Qz (Qy (Qx fun K hK => ?_))); refine Qq J J J (Xa J bCodes J (.one J J J J .nil) J (Qh 0 J J J J J J J (Qj J J J (Qv (hK _ _ (Qz (QU ?_))))))); clear hK K; refine Fin.retN J J (by rw [List.take_of_length_le (by omega)]; rfl) J
theorem goRoll : InGo Tryz.prog 13 := InGo.of Tryz.func13 rfl (by decide)
theorem Roll_ok (bs : List Int) : OkN Tryz.prog 13 [bytesC bs] 82 (codes (bs.take 400) 0) := by
  refine OkN.enter Tryz.func13 J _ Tryz.ntmps13 J ?_
  intro S w; refine Qy (Qx fun K hK => ?_); refine Qj J J J (Qv (hK _ _ (Qz (Qy ?_)))); clear hK K; refine Qx (fun K hK => ?_); refine Qq J J J (Ops.callN 0 goNew (New_ok bs) J J J J J J (Qj J J J (Qv (hK _ _ (Qz (QU ?_)))))); clear hK K; refine Fin.retN J J J J
theorem goPick : InGo Tryz.prog 27 := InGo.of Tryz.func27 rfl (by decide)
theorem Pick_ok (bs : List Int) (p : Nat) (xs : List Int) (h1 : 1 ≤ xs.length) (h2 : xs.length ≤ 256) (hb : Bytes bs) :
    OkB Tryz.prog 27 82 (codes bs p) [intsC xs] (fun q : Int × Nat => q.1 ∈ xs) (fun q => intC q.1) (fun q => codes bs q.2) := by
  refine OkB.enter Tryz.func27 J _ Tryz.ntmps27 J ?_
  intro S w g; refine Qy (Qx fun K hK => ?_); refine Qj J J J (Qv (hK _ _ (Qz (Qy ?_)))); clear hK K; refine Qx (fun K hK => ?_); refine Qq J J J (Qq J J J (Qq J J J (Q3 J J sInts.und (List.length_map ..) J (Xb goNext (Next_ok bs p xs.length (by omega) (by omega) hb) J J J J J (fun q hq => ?_))))); obtain ⟨x, p'⟩ := q; dsimp only at hq
  refine Qc J J J sInts (by omega) (Xw (by omega) (by omega)) J ?_
  refine Ql J J J lInt J (Qj J J J (Qv (hK _ _ (Qz (QU ?_))))); clear hK K
  refine Fin.retB (xs.getD x.toNat 0, p') [_] rfl (Qu J QQ) J J ?_
  show xs.getD x.toNat 0 ∈ xs
  have hl : x.toNat < xs.length := by omega
  rw [List.getD_eq_getElem?_getD, List.getElem?_eq_getElem hl]; exact List.getElem_mem hl
theorem goBool : InGo Tryz.prog 24 := InGo.of Tryz.func24 rfl (by decide)
theorem Bool_ok (bs : List Int) (p : Nat) (n : Int) (h1 : 1 ≤ n) (h2 : n ≤ 256) (hb : Bytes bs) :
    OkB Tryz.prog 24 82 (codes bs p) [intC n] (fun _ : Bool × Nat => True) (fun q => boolC q.1) (fun q => codes bs q.2) := by
  refine OkB.enter Tryz.func24 J _ Tryz.ntmps24 J ?_
  intro S w g; refine Qy (Qx fun K hK => ?_); refine Qj J J J (Qv (hK _ _ (Qz (Qy ?_)))); clear hK K; refine Qx (fun K hK => ?_); refine Qq J J J (Qq J J J (Xb goNext (Next_ok bs p n h1 h2 hb) J J J J J (fun q hq => ?_))); obtain ⟨x, p'⟩ := q; dsimp only at hq; refine Qq J J J (Qk (isub (by omega) (by omega)) J J J J ?_); refine Qk ieql J J J J (Qj J J J (Qv (hK _ _ (Qz (QU ?_))))); clear hK K; refine Fin.retB (decide (x = n - 1), p') [_] rfl (Qu J QQ) J J trivial
end Go.Proofs.YtdhmbgogmoaofaaGreat
namespace Go.Proofs.YtdhmbgogmoaofaaGreat
open Go.Own Go.Limbs
attribute [local irreducible] St Ops Go.Own.Fin Ok OkB OkN wpA
theorem zIntsD : (Tryz.prog.info? 24).map (·.size) = some 1 := by kernel_rfl
theorem bRow : bInfo Tryz.prog 57 = some (.agg #[.slice none 0 0, .int .i64 0], [(0, some 1), (1, some 1)]) := by kernel_rfl
def rws (rs : List Rw) : List CT := (rs.map rwCs).flatten
theorem rws_len (rs : List Rw) : (rws rs).length = rs.length * 2 := by
  unfold rws; rw [Xm (k := 2) (fun e he => by obtain ⟨m, _, rfl⟩ := List.mem_map.mp he; rfl)]; simp
theorem rws_snoc (rs : List Rw) (r : Rw) : rws (rs ++ [r]) = rws rs ++ rwCs r := by simp [rws]
theorem rws_frozen (e : Nat) (rs : List Rw) : (Ent.row e 2 (rws rs)).frozen (sliceT 2 (rs.map rwCs)) :=
  ⟨_, rfl, fun e he => by obtain ⟨m, _, rfl⟩ := List.mem_map.mp he; rfl, by decide, rfl⟩
structure RowIn (n : Int) (r : Rw) : Prop where
  len : (r.cs.length : Int) ≤ n
  lo : ∀ c ∈ r.cs, -3 ≤ c ∧ c ≤ 5
  b1 : -4503599627370496 ≤ r.b
  b2 : r.b ≤ 4503599627370496
structure Lp where
  n : Int
  rs : List Rw
  c : List Int
  p : Nat
structure LpIn (q : Lp) : Prop where
  n0 : 0 ≤ q.n
  n1 : q.n ≤ 4
  rl : q.rs.length ≤ 6
  rs : ∀ r ∈ q.rs, RowIn q.n r
  cl : (q.c.length : Int) ≤ q.n
  c : ∀ c ∈ q.c, -2 ≤ c ∧ c ≤ 4
theorem mem_snoc {α : Type} {P : α → Prop} {xs : List α} {x : α} (h : ∀ y ∈ xs, P y) (hx : P x) : ∀ y ∈ xs ++ [x], P y := fun y hy => by
  rcases List.mem_append.1 hy with h1 | h1
  · exact h y h1
  · rcases List.mem_singleton.1 h1 with rfl; exact hx
set_option maxHeartbeats 4000000 in
theorem Program_ok (bs : List Int) (p : Nat) (hb : Bytes bs) :
    OkB Tryz.prog 14 82 (codes bs p) [] LpIn (fun q => .fr (tupT [intC q.n, rowsC q.rs, intsC q.c])) (fun q => codes bs q.p) := by
  refine OkB.enter Tryz.func14 J _ Tryz.ntmps14 J ?_
  intro S w g; refine Qy (Qx fun K hK => ?_); refine Qj J J J (Qj J J J (Qj J J J (Qv (hK _ _ (Qz (Qy ?_)))))); clear hK K; refine Qx (fun K hK => ?_); refine Qq J J J (Xb goNext (Next_ok bs p 5 (by decide) (by decide) hb) J J J J J (fun q hq => ?_)); obtain ⟨n, p1⟩ := q; dsimp only at hq ⊢; refine Qj J J J (Qv (hK _ _ (Qz (Qy ?_)))); clear hK K; refine Qx (fun K hK => ?_); refine Qj J J J (Qv (hK _ _ (Qz (Qy (Qy ?_))))); clear hK K; refine Qx (fun K hK => ?_); refine Qq J J J (Xb goNext (Next_ok bs p1 7 (by decide) (by decide) hb) J J J J J (fun q hq1 => ?_)); obtain ⟨k0, p2⟩ := q; dsimp only at hq1 ⊢; refine Qj J J J (Qv (hK _ _ (Qz (Q4 ?_)))); clear hK K
  refine Zx 6 1 57 2 J J J ?_
  refine Qn (α := Int × List Rw × Nat) (fun x => 0 ≤ x.1 ∧ x.2.1.length + x.1 ≤ 6 ∧ ∀ r ∈ x.2.1, RowIn n r)
    (fun x => [(0, .own 0), (5, .ct (intC n)), (6, .own 1), (7, .ct (intC x.1))]) (fun x => [(1, .row 57 2 (rws x.2.1)), (0, .box 82 (codes bs x.2.2))]) (fun x => x.1.toNat) (k0, [], p2) ⟨by omega, by simp; omega, by simp⟩ (by exact QJ J ⟨rfl, rfl, rfl, rfl, trivial⟩) ?_
  rintro ⟨k, rs, p3⟩ ⟨hk0, hkl, hrs⟩
  dsimp only at hk0 hkl hrs ⊢; refine Qy (Qy (Qx fun K hK => ?_)); refine Qq J J J (Qk igtr J J J J (Qv (hK _ _ (Qz ?_)))); clear hK K; refine Q1 J (fun hk => ?_) (fun hk => ?_)
  · refine Q0 (Qz (Qy (Q4 (Qy (Qx fun K hK => ?_))))); refine Qq J J J (Xb goNext (Next_ok bs p3 30 (by decide) (by decide) hb) J J J J J (fun q hq2 => ?_)); obtain ⟨b0, p4⟩ := q; dsimp only at hq2 ⊢
    refine Qk (isub (by omega) (by omega)) J J J J ?_
    refine Xa J bRow J (.one J J J J .nil) J (Qa 2 J J zvRow J J J (Q8 2 J J J J J szRow J J (Qv (hK _ _ (Qz (Qy (Qy ?_))))))); clear hK K; refine Qx (fun K hK => ?_); refine Qq J J J (Qq J J J (Qk (iadd (by omega) (by omega)) J J J J ?_)); refine Xb goNext (Next_ok bs p4 (n + 1) (by omega) (by omega) hb) J J J J J (fun q hq3 => ?_); obtain ⟨i0, p5⟩ := q; dsimp only at hq3 ⊢; refine Qj J J J (Qv (hK _ _ (Qz (Q4 ?_)))); clear hK K
    refine St.nilX 3 3 1 J J ?_
    refine Qn (α := Int × List Int × Value × Nat) (fun x => 0 ≤ x.1 ∧ x.2.1.length + x.1 ≤ n ∧ (∀ c ∈ x.2.1, -3 ≤ c ∧ c ≤ 5) ∧ x.2.2.1.oneCell' = true)
      (fun x => [(0, .own 0), (5, .ct (intC n)), (6, .own 1), (7, .ct (intC k)), (8, .own 2), (9, .ct (intC x.1))])
      (fun x => [(3, .rowx x.2.2.1 3 1 (ints x.2.1)), (2, .box 57 [.ex x.2.2.1, intC (b0 - 8)]), (1, .row 57 2 (rws rs)), (0, .box 82 (codes bs x.2.2.2))]) (fun x => x.1.toNat) (i0, [], .slice none 0 0, p5) ⟨by omega, by simp; omega, by simp, rfl⟩ (by exact QJ J ⟨rfl, rfl, rfl, rfl, rfl, rfl, trivial⟩) ?_
    · rintro ⟨i, cs, v, p6⟩ ⟨hi0, hil, hcs, hv⟩
      dsimp only at hi0 hil hcs hv ⊢; refine Qy (Qy (Qx fun K hK => ?_)); refine Qq J J J (Qk igtr J J J J (Qv (hK _ _ (Qz ?_)))); clear hK K; refine Q1 J (fun hi => ?_) (fun hi => ?_)
      · refine Q0 (Qz (Qy (Q4 ?_))); refine St.drawA mixed (.p 0 (.p 2 (.fk 1 (.lin (.a 3 (.p 4 (.a 5 (.a 6 (.p 7 (.a 8 .done))))))) 3 (.p 4 (.fk 1 (.lin (.a 5 (.a 6 (.p 7 (.a 8 .done))))) 5 (.lin (.a 1 (.a 6 (.p 7 (.a 8 .done)))))))))) (by kernel_rfl) (fun K hK => ?_); refine Fin.p (QW J J J fR0 J (Qv (Fin.p ?_))); refine Qq J J J (Qv (Fin.fk ?_ ?_))
        · refine QK J J J J J lInts J (Qv (Fin.lin ?_)); refine Xb goNext (Next_ok bs p6 9 (by decide) (by decide) hb) J J J J J (fun q hq4 => ?_); obtain ⟨c, p7⟩ := q; dsimp only at hq4 ⊢
          refine Qk (isub (by omega) (by omega)) J J J J ?_
          refine XZ J J sInts J J J ?_
          skip; refine Xf 33 3 J J (Qt cs.length (ints (cs ++ [c - 3])) J J J J sInts (by simp [ints]) J (by omega) (by omega) (by simp [ints]) J ?_); refine QW J J J fR0 J (Ops.name 38 3 J J (fun v' hv' => ?_))
          refine Xv (c := .ex v') J J J J hv' zIntsD (by simp [Ent.cs]) ?_
          refine Qv (hK _ _ (Qz ?_)); clear hK K; refine Qx (fun K hK => ?_); refine Qq J J J (Qk (isub (by omega) (by omega)) J J J J ?_); refine Qj J J J (Qv (hK _ _ (Q7 ?_))); clear hK K; refine Qb (i - 1, cs ++ [c - 3], v', p7) (by dsimp only; omega) ⟨by dsimp only; omega, by simp; omega, mem_snoc hcs (by omega), hv'⟩ (by exact QJ J ⟨rfl, rfl, rfl, rfl, rfl, rfl, trivial⟩)
        · refine Xb goNext (Next_ok bs p6 9 (by decide) (by decide) hb) J J J J J (fun q hq4 => ?_); obtain ⟨c, p7⟩ := q; dsimp only at hq4 ⊢; skip; refine Qv (Fin.p ?_)
          refine Qk (isub (by omega) (by omega)) J J J J ?_
          refine Qv (Fin.fk ?_ ?_)
          · refine QK J J J J J lInts J (Qv (Fin.lin ?_))
            refine XZ J J sInts J J J ?_
            skip; refine Xf 33 3 J J (Qt cs.length (ints (cs ++ [c - 3])) J J J J sInts (by simp [ints]) J (by omega) (by omega) (by simp [ints]) J ?_); refine QW J J J fR0 J (Ops.name 38 3 J J (fun v' hv' => ?_))
            refine Xv (c := .ex v') J J J J hv' zIntsD (by simp [Ent.cs]) ?_
            refine Qv (hK _ _ (Qz ?_)); clear hK K; refine Qx (fun K hK => ?_); refine Qq J J J (Qk (isub (by omega) (by omega)) J J J J ?_); refine Qj J J J (Qv (hK _ _ (Q7 ?_))); clear hK K; refine Qb (i - 1, cs ++ [c - 3], v', p7) (by dsimp only; omega) ⟨by dsimp only; omega, by simp; omega, mem_snoc hcs (by omega), hv'⟩ (by exact QJ J ⟨rfl, rfl, rfl, rfl, rfl, rfl, trivial⟩)
          · refine XZ J J sInts J J J (Qv (Fin.lin ?_)); refine QK J J J J J lInts J (Xf 33 3 J J (Qt cs.length (ints (cs ++ [c - 3])) J J J J sInts (by simp [ints]) J (by omega) (by omega) (by simp [ints]) J ?_)); refine QW J J J fR0 J (Ops.name 38 3 J J (fun v' hv' => ?_))
            refine Xv (c := .ex v') J J J J hv' zIntsD (by simp [Ent.cs]) ?_
            refine Qv (hK _ _ (Qz ?_)); clear hK K; refine Qx (fun K hK => ?_); refine Qq J J J (Qk (isub (by omega) (by omega)) J J J J ?_); refine Qj J J J (Qv (hK _ _ (Q7 ?_))); clear hK K; refine Qb (i - 1, cs ++ [c - 3], v', p7) (by dsimp only; omega) ⟨by dsimp only; omega, by simp; omega, mem_snoc hcs (by omega), hv'⟩ (by exact QJ J ⟨rfl, rfl, rfl, rfl, rfl, rfl, trivial⟩)
      · refine St.frzX 3 2 0 _ J J J (X1 _ _) (okFix_lent J) (Qm (Qz (Qy (Qy (Qx fun K hK => ?_))))); refine Qq J J J (Xb goBool (Bool_ok bs p6 16 (by decide) (by decide) hb) J J J J J (fun q _ => ?_)); obtain ⟨b, p7⟩ := q; dsimp only; refine Qv (hK _ _ (Qz ?_)); clear hK K; refine Zz J (fun _ => ?_) (fun _ => ?_)
        · refine Qx (fun K hK => ?_); refine Qq J J J (ZY (m := 2) (cs := [intC (-4503599627370496), intC 4503599627370496]) J J sInts (.one J J J J (.one J J J J .nil)) (by decide) J ?_); refine Xb goPick (Pick_ok bs p7 [-4503599627370496, 4503599627370496] (by decide) (by decide) hb) J J J J J (fun q hq5 => ?_); obtain ⟨b1, p8⟩ := q
          have hb1 : b1 = -4503599627370496 ∨ b1 = 4503599627370496 := by simpa using hq5
          dsimp only; refine QW J J J fR1 J (Xv J J J J J zInt (by simp [Ent.cs]) ?_); refine Qv (hK _ _ (Qz ?_)); clear hK K; refine Qx (fun K hK => ?_); refine Qq J J J (Qd (n := 2) J J J J J lRow J (Ops.litN (n := 2) J J sRows J J (by decide) J ?_))
          refine Qt rs.length (rws (rs ++ [⟨cs, b1⟩])) J J J J sRows (rws_len rs) J (by omega) (by omega) (rws_snoc rs ⟨cs, b1⟩) J ?_
          refine Qj J J J (Qv (hK _ _ (Qz ?_))); clear hK K; refine Qx (fun K hK => ?_); refine Qq J J J (Qk (isub (by omega) (by omega)) J J J J ?_); refine Qj J J J (Qv (hK _ _ (Q7 ?_))); clear hK K; refine Xy 2 (Qb (k - 1, rs ++ [⟨cs, b1⟩], p8) (by dsimp only; omega) ⟨by dsimp only; omega, by simp; omega, mem_snoc hrs ⟨by dsimp only; omega, hcs, by dsimp only; omega, by dsimp only; omega⟩⟩ (by exact QJ J ⟨rfl, rfl, rfl, rfl, trivial⟩))
        · refine Q0 (Qz (Qx fun K hK => ?_)); refine Qq J J J (Qd (n := 2) J J J J J lRow J (Ops.litN (n := 2) J J sRows J J (by decide) J ?_))
          refine Qt rs.length (rws (rs ++ [⟨cs, b0 - 8⟩])) J J J J sRows (rws_len rs) J (by omega) (by omega) (rws_snoc rs ⟨cs, b0 - 8⟩) J ?_
          refine Qj J J J (Qv (hK _ _ (Qz ?_))); clear hK K; refine Qx (fun K hK => ?_); refine Qq J J J (Qk (isub (by omega) (by omega)) J J J J ?_); refine Qj J J J (Qv (hK _ _ (Q7 ?_))); clear hK K; refine Xy 2 (Qb (k - 1, rs ++ [⟨cs, b0 - 8⟩], p7) (by dsimp only; omega) ⟨by dsimp only; omega, by simp; omega, mem_snoc hrs ⟨by dsimp only; omega, hcs, by dsimp only; omega, by dsimp only; omega⟩⟩ (by exact QJ J ⟨rfl, rfl, rfl, rfl, trivial⟩))
  · refine Qm (Qz (Qy (Qx fun K hK => ?_))); refine Qj J J J (Qv (hK _ _ (Qz (Qy (Qy ?_))))); clear hK K; refine Qx (fun K hK => ?_); refine Qq J J J (Qq J J J (Qk (iadd (by omega) (by omega)) J J J J ?_)); refine Xb goNext (Next_ok bs p3 (n + 1) (by omega) (by omega) hb) J J J J J (fun q hq3 => ?_); obtain ⟨i0, p5⟩ := q; dsimp only at hq3 ⊢; refine Qj J J J (Qv (hK _ _ (Qz (Q4 ?_)))); clear hK K
    refine Zx 10 2 3 1 J J J ?_
    refine Qn (α := Int × List Int × Nat) (fun x => 0 ≤ x.1 ∧ x.2.1.length + x.1 ≤ n ∧ (∀ c ∈ x.2.1, -2 ≤ c ∧ c ≤ 4))
      (fun x => [(0, .own 0), (5, .ct (intC n)), (6, .own 1), (10, .own 2), (11, .ct (intC x.1))])
      (fun x => [(2, .row 3 1 (ints x.2.1)), (1, .row 57 2 (rws rs)), (0, .box 82 (codes bs x.2.2))]) (fun x => x.1.toNat) (i0, [], p5) ⟨by omega, by simp; omega, by simp⟩ (by exact QJ J ⟨rfl, rfl, rfl, rfl, rfl, trivial⟩) ?_
    rintro ⟨i, cs, p6⟩ ⟨hi0, hil, hcs⟩
    dsimp only at hi0 hil hcs ⊢; refine Qy (Qy (Qx fun K hK => ?_)); refine Qq J J J (Qk igtr J J J J (Qv (hK _ _ (Qz ?_)))); clear hK K; refine Q1 J (fun hi => ?_) (fun hi => ?_)
    · refine Q0 (Qz (Qy (Q4 (Qx fun K hK => ?_)))); refine Qq J J J (Qq J J J (Xb goNext (Next_ok bs p6 7 (by decide) (by decide) hb) J J J J J (fun q hq4 => ?_))); obtain ⟨c, p7⟩ := q; dsimp only at hq4 ⊢
      refine Qk (isub (by omega) (by omega)) J J J J ?_
      refine XZ J J sInts J J J (Qt cs.length (ints (cs ++ [c - 2])) J J J J sInts (by simp [ints]) J (by omega) (by omega) (by simp [ints]) J ?_); refine Qj J J J (Qv (hK _ _ (Qz ?_))); clear hK K; refine Qx (fun K hK => ?_); refine Qq J J J (Qk (isub (by omega) (by omega)) J J J J ?_); refine Qj J J J (Qv (hK _ _ (Q7 ?_))); clear hK K; refine Qb (i - 1, cs ++ [c - 2], p7) (by dsimp only; omega) ⟨by dsimp only; omega, by simp; omega, mem_snoc hcs (by omega)⟩ (by exact QJ J ⟨rfl, rfl, rfl, rfl, rfl, trivial⟩)
    · refine St.frz 1 _ J (rws_frozen _ _) (okFix_lent J) (St.frz 2 _ J (X1 _ _) (okFix_lent J) (Qm (Qz (Qy (Qx fun K hK => ?_))))); refine Qq J J J (Qq J J J (Qq J J J (Qj J J J (Qj J J J (Qj J J J (Qv (hK _ _ (Qz (QU ?_))))))))); clear hK K; refine Fin.retB ⟨n, rs, cs, p6⟩ [_, _, _] rfl (Qu J (Qu J (Qu J QQ))) J J ⟨hq.1, by show n ≤ 4; omega, by show rs.length ≤ 6; omega, hrs, by show (cs.length : Int) ≤ n; omega, hcs⟩
theorem goProgram : InGo Tryz.prog 14 := InGo.of Tryz.func14 rfl (by decide)
attribute [local irreducible] OkM
def aw1 : List Rw := [⟨[1, 1], 4⟩, ⟨[1], 3⟩]
def aw2 : List Rw := [⟨[-1], -5⟩, ⟨[1], 3⟩]
def awX : List Fr := [ofQ (3 : Int), ofQ (1 : Int)]
structure Rf where
  neg : Bool
  xs : List Int
  ys : List Int
def rf0 : Rf := ⟨false, [], []⟩
abbrev rfCs (f : Rf) : List CT := [boolC f.neg, intsC f.xs, intsC f.ys]
abbrev rfsC (x : List Rf) : CT := .fr (sliceT 3 (x.map rfCs))
theorem rfs_at {fs : List Rf} {j : Int} (h0 : 0 ≤ j) (h : j < (fs.length : Int)) : (fs.map rfCs)[j.toNat]? = some (rfCs (fs.getD j.toNat rf0)) := map_at rfCs rf0 h0 h
def okRf (f : Rf) : Bool := (decide (f.xs.length ≤ 6) && decide (f.ys.length ≤ 6)) && fvalidL f.neg f.xs f.ys
def smallB (rs : List Rw) (c : List Int) (x : List Rf) : Bool := (decide (rs.length ≤ 6) && decide (c.length ≤ 6) && decide (x.length ≤ 6)) && (rs.all (fun r => decide (r.cs.length ≤ 6)) && x.all okRf)
end Go.Proofs.YtdhmbgogmoaofaaGreat
namespace Go.Proofs.YtdhmbgogmoaofaaGreat
open Go.Own Go.Limbs Go.Det
theorem shq_mul (a k D : Int) : shq (k * a) D = shq a D * (k : Rat) := by
  unfold shq; rw [← Rat.mkRat_one k, Rat.mkRat_mul_mkRat, Nat.mul_one, Int.mul_comm]
theorem mkR_le {a b : Int} {d e : Nat} (hd : 0 < d) (he : 0 < e) (h : a * e ≤ b * d) : mkRat a d ≤ mkRat b e := by
  cases ep : mkRat a d with
  | mk' pn pd z1 c1 =>
    cases eq : mkRat b e with
    | mk' qn qd z2 c2 =>
      obtain ⟨m, hm, e1, e2⟩ := Rat.mkRat_num_den (by omega) ep; obtain ⟨k, hk, e3, e4⟩ := Rat.mkRat_num_den (by omega) eq; rw [Rat.le_iff]; dsimp only; subst e1 e2 e3 e4; rw [Int.natCast_mul, Int.natCast_mul] at h
      have hmk : (0 : Int) < (m : Int) * k := by exact_mod_cast Nat.mul_pos (Nat.pos_of_ne_zero hm) (Nat.pos_of_ne_zero hk)
      refine Int.le_of_mul_le_mul_left ?_ hmk
      rw [show (m : Int) * k * (pn * qd) = pn * m * (qd * k) by grind, show (m : Int) * k * (qn * pd) = qn * k * (pd * m) by grind]; exact h
theorem shq_add (a b D : Int) : shq (a + b) D = shq a D + shq b D := by
  unfold shq; rcases Nat.eq_zero_or_pos D.natAbs with h | h
  · rw [h, Rat.mkRat_zero, Rat.mkRat_zero, Rat.mkRat_zero, Rat.add_zero]
  · rw [Rat.mkRat_add_mkRat _ _ (by omega) (by omega), ← Int.add_mul, Rat.mkRat_mul_right (by omega)]
theorem ptl_len (n : Nat) (X : Nat → Int) (D : Int) : (ptl n X D).length = n := by simp [ptl]
theorem cmpQ_neg {p q : Rat} : cmpQ p q < 0 ↔ p < q := by
  rw [Rat.lt_iff]; unfold cmpQ; rw [Int.sign_neg_iff]; omega
theorem cmpQ_le_iff {p q : Rat} : cmpQ p q ≤ 0 ↔ p ≤ q := by
  rw [Rat.le_iff]; unfold cmpQ; rw [Int.sign_nonpos_iff]; omega
theorem shq_le_int {a D b : Int} (hD : 0 < D) (h : a ≤ D * b) : shq a D ≤ (b : Rat) := by
  rw [← Rat.mkRat_one b]; unfold shq; exact mkR_le (by omega) (by omega) (by rw [show ((D.natAbs : Nat) : Int) = D by omega]; have := Int.mul_comm b D; omega)
theorem int_le_shq {a D b : Int} (hD : 0 < D) (h : D * b ≤ a) : (b : Rat) ≤ shq a D := by
  rw [← Rat.mkRat_one b]; unfold shq; exact mkR_le (by omega) (by omega) (by rw [show ((D.natAbs : Nat) : Int) = D by omega]; have := Int.mul_comm b D; omega)
theorem shq_num_sign {a D : Int} (hD : 0 < D) : (0 ≤ a → 0 ≤ (shq a D).num) ∧ (a < 0 → (shq a D).num < 0) ∧ (0 < a → 0 < (shq a D).num) := by
  have key : ∃ m : Nat, m ≠ 0 ∧ a = (shq a D).num * m := by
    unfold shq
    cases e : mkRat a D.natAbs with
    | mk' p d z c =>
      obtain ⟨m, hm, e1, e2⟩ := Rat.mkRat_num_den (by omega) e; exact ⟨m, hm, e1⟩
  obtain ⟨m, hm, e⟩ := key
  have hm' : (0 : Int) < m := by omega
  generalize (shq a D).num = q at e; subst e; refine ⟨fun h => ?_, fun h => ?_, fun h => ?_⟩
  · exact Int.not_lt.1 fun h1 => by have := Int.mul_neg_of_neg_of_pos h1 hm'; omega
  · exact Int.not_le.1 fun h1 => by have := Int.mul_nonneg h1 (Int.le_of_lt hm'); omega
  · exact Int.not_le.1 fun h1 => by have := Int.mul_nonneg (Int.neg_nonneg_of_nonpos h1) (Int.le_of_lt hm'); rw [Int.neg_mul] at this; omega
end Go.Proofs.YtdhmbgogmoaofaaGreat
namespace Go.Proofs.YtdhmbgogmoaofaaGreat
open Go.Own Go.Limbs
attribute [local irreducible] St Ops Go.Own.Fin Ok
structure SzQ (q : Rat) : Prop where
  n : (limbs (ofQ q).num).length ≤ 64
  d : (limbs (ofQ q).den).length ≤ 64
def colQ (rs : List Rw) (ys : List Fr) (j : Nat) : Rat := vsum (rs.map fun r => r.cs.getD j 0) ys
def bsQ (rs : List Rw) (ys : List Fr) : Rat := vsum (rs.map fun r => r.b) ys
def colsQ (rs : List Rw) (ys : List Fr) (n : Nat) : List Rat := (List.range n).map (colQ rs ys)
abbrev ratsC (qs : List Rat) : CT := .fr (sliceT 3 (qs.map fun q => frCs (ofQ q)))
def rts (qs : List Rat) : List CT := (qs.map fun q => frCs (ofQ q)).flatten
theorem rts_len (qs : List Rat) : (rts qs).length = qs.length * 3 := by
  unfold rts; rw [Xm (k := 3) (fun e he => by obtain ⟨m, _, rfl⟩ := List.mem_map.mp he; rfl)]; simp
theorem rts_snoc (qs : List Rat) (q : Rat) : rts (qs ++ [q]) = rts qs ++ frCs (ofQ q) := by simp [rts]
theorem rts_frozen (e : Nat) (qs : List Rat) : (Ent.row e 3 (rts qs)).frozen (sliceT 3 (qs.map fun q => frCs (ofQ q))) :=
  ⟨_, rfl, fun e he => by obtain ⟨m, _, rfl⟩ := List.mem_map.mp he; rfl, by decide, rfl⟩
theorem Xl {qs : List Rat} {j : Int} (h0 : 0 ≤ j) (h : j < (qs.length : Int)) : (qs.map fun q => frCs (ofQ q))[j.toNat]? = some (frCs (ofQ (qs.getD j.toNat 0))) := map_at (fun q => frCs (ofQ q)) 0 h0 h
structure Mul (n : Nat) (rs : List Rw) (ys : List Fr) : Prop where
  len : ys.length = rs.length
  vf : ∀ f ∈ ys, VF f
  nn : ∀ f ∈ ys, f.neg = false
  c : ∀ j, j < n → VFit (rs.map fun r => r.cs.getD j 0) ys ∧ SzQ (colQ rs ys j)
  b : VFit (rs.map fun r => r.b) ys ∧ SzQ (bsQ rs ys)
theorem multipliers1_V (f : Fr) (h : VF f) : Ok Tryz.prog 145 [fracC f] (boolC f.neg) := by
  refine Ok.enter Tryz.func145 J _ Tryz.ntmps145 J ?_
  intro S w; refine Qy (Qx fun K hK => ?_); refine Qh 0 J J J J J J J (Qj J J J (Qv (hK _ _ (Qz (Qy ?_))))); clear hK K; refine Qx (fun K hK => ?_); refine Qd (n := 3) J J J J J Qg J (QX Yx (FValid_V f h) J J J J (Qe J J J (Qq J J J (QW J J J fF0 J (QK J J J J J lBool J (Q2 J J J J (Qj J J J (Qv (hK _ _ (Qz (QU ?_))))))))))); clear hK K; refine QY [_] rfl (Qu J QQ) J J
theorem multipliers_gen {n : Nat} (rs : List Rw) (ys : List Fr) (h : Mul n rs ys) (h64 : rs.length ≤ 64) : Ok Tryz.prog 96 [rowsC rs, fracsC ys] (boolC true) := by
  have hl := h.len; have hC := Zo ys _ (fun f => f.neg) gomultipliers1 (fun f hf => multipliers1_V f (h.vf f hf)) (by omega); rw [show ys.any (fun f => f.neg) = false from List.any_eq_false.2 fun f hf => by rw [h.nn f hf]; decide] at hC
  refine Ok.enter Tryz.func96 J _ Tryz.ntmps96 J ?_
  intro S w; refine Qy (Qx fun K hK => ?_); refine Qj J J J (Qv (hK _ _ (Qz (Qy ?_)))); clear hK K; refine Qx (fun K hK => ?_); refine Qq J J J (Q3 J J sFracs.und (List.length_map ..) J (Qq J J J (Q3 J J sRows.und (List.length_map ..) J (Qk ieql J J J J (Qq J J J ?_))))); rw [decide_eq_true (show (ys.length : Int) = rs.length by omega)]; refine Qq J J J (QX Xg hC J J J J (Qe J J J (Q6 J J J J (Qj J J J (Qv (hK _ _ (Qz (QU ?_)))))))); clear hK K; refine QY [_] rfl (Qu J QQ) J J
set_option maxHeartbeats 4000000 in
theorem fold_gen (rs : List Rw) (ys : List Fr) (f : FuncId) (caps : List CT) (num : Rw → Int) (hgo : InGo Tryz.prog f) (hf : ∀ r ∈ rs, Ok Tryz.prog f ([rowC r] ++ caps) (intC (num r))) (hl : rs.length ≤ 64) (hV : VFit (rs.map num) ys) :
    Ok Tryz.prog 97 [rowsC rs, fracsC ys, .fr (closT f caps)] (.fr (tupT [ratC (vsum (rs.map num) ys), intC 0])) := by
  refine Ok.enter Tryz.func97 J _ Tryz.ntmps97 J ?_
  intro S w; refine Qy (Qx fun K hK => ?_); refine Qa 0 J J zvFrac J J J (Qj J J J (Qv (hK _ _ (Qz (Qy ?_))))); clear hK K; refine Qx (fun K hK => ?_); refine Qj J J J (Qv (hK _ _ (Qz (Qy (Qy ?_))))); clear hK K; refine Qx (fun K hK => ?_); refine Qq J J J (Q3 J J sRows.und (List.length_map ..) J (Qq J J J (Qv (hK _ _ (Qz (Q4 ?_)))))); clear hK K
  refine Zx 8 1 3 1 J J J ?_
  skip
  refine Qn (α := Nat) (fun i => i ≤ rs.length)
    (fun i => [(1, .ct (fracsC ys)), (2, .ct (.fr (closT f caps))), (6, .own 0), (8, .own 1), (11, .ct (rowsC rs)), (12, .ct (intC rs.length)), (13, .ct (intC i))])
    (fun i => [(1, .row 3 1 (ints ((rs.take i).map num))), (0, .box 38 [.ex (.bool false), .ex (.slice none 0 0), .ex (.slice none 0 0)])]) (fun i => rs.length - i) 0 (Nat.zero_le _) (by exact QJ J ⟨rfl, rfl, rfl, rfl, rfl, rfl, rfl, trivial⟩) ?_
  intro i hi; dsimp only at hi ⊢; refine Qy (Qx fun K hK => ?_); refine Qk ilss J J J J (Qv (hK _ _ (Qz (Qy ?_)))); clear hK K; refine Q1 J (fun h => ?_) (fun h => ?_)
  · have e2 : (i : Int).toNat = i := Int.toNat_natCast i
    have hlt : i < rs.length := by omega
    refine Q0 (Qz (Qy (Q4 (Qy (Qx fun K hK => ?_)))))
    refine Qc J J J sRows (by omega) (ZQ (by omega) (by omega)) J ?_
    refine Xk (n := 2) J J J lRow J J (Qa 2 J J zvRow J J J (Q8 2 J J J J J szRow J J (Qv (hK _ _ (Qz ?_))))); clear hK K; refine Qx (fun K hK => ?_); refine Qq J J J (Qq J J J (Qd (n := 2) J J J J J lRow J ?_)); rw [e2]; skip; refine Ops.callC hgo J (hf (rs.getD i rw0) (Xj hlt)) J J J J (XZ J J sInts J J J (Qt i (ints ((rs.take (i + 1)).map num)) J J J J sInts (by simp [ints]; omega) J (by omega) (by omega) (by rw [Y1 num rw0 hlt]; simp [ints]) J ?_)); refine Qj J J J (Qv (hK _ _ (Qz ?_))); clear hK K; refine Qx (fun K hK => ?_)
    refine Qk (iadd (by omega) (by omega)) J J J J ?_
    refine Qq J J J (Qv (hK _ _ (Q7 ?_))); clear hK K; refine Xy 2 (Qb (i + 1) (by omega) (by omega) (by exact QJ J ⟨rfl, rfl, rfl, rfl, rfl, rfl, by simp only [Int.natCast_add]; rfl, trivial⟩))
  · have hi' : i = rs.length := by omega
    have e : (rs.take i).map num = rs.map num := by rw [hi', List.take_length]
    rw [e]; refine X6 1 _ J (X1 _ _) XV (Qm (Qz (Qy (Qx fun K hK => ?_)))); refine Qq J J J (Qq J J J (QX goValue (Value_gen (rs.map num) ys hV) J J J J (QZ J J J J (QZ J J J J (Q8 3 J J J J J szFrac J J (Qj J J J (Qv (hK _ _ (Qz (QU ?_)))))))))); clear hK K; refine QY [_, _] rfl (Qp (n := 3) J J Qg J (Qu J QQ)) J J
set_option maxHeartbeats 4000000 in
theorem Combine_gen (n : Nat) (rs : List Rw) (ys : List Fr) (hv : validR n rs = true) (H : Mul n rs ys) :
    Ok Tryz.prog 40 [intC n, rowsC rs, fracsC ys] (.fr (tupT [ratsC (colsQ rs ys n), ratC (bsQ rs ys), intC 0])) := by
  obtain ⟨v1, v2, v3, v4⟩ := X4 hv; have hV := Zh n rs (by omega) (fun r hr => by have := (v4 r hr).1; omega); rw [hv] at hV; have hM := multipliers_gen rs ys H v3
  have hF : ∀ j : Nat, j < n → Ok Tryz.prog 97 [rowsC rs, fracsC ys, .fr (closT 98 [.fr (ptrT [intC j])])] (.fr (tupT [ratC (colQ rs ys j), intC 0])) := fun j hj =>
    fold_gen rs ys _ _ (fun r => r.cs.getD j 0) goCombine1 (fun r _ => Combine1_ok j r) v3 (H.c j hj).1
  have hB : Ok Tryz.prog 97 [rowsC rs, fracsC ys, .ex (.func (.func 99) #[] #[])] (.fr (tupT [ratC (bsQ rs ys), intC 0])) :=
    (fold_gen rs ys _ [] (fun r => r.b) goCombine2 (fun r _ => Combine2_ok r) v3 H.b.1).weak ⟨Z4, Z4, w_fun, trivial⟩
  refine Ok.enter Tryz.func40 J _ Tryz.ntmps40 J ?_
  intro S w; refine Qy (Qx fun K hK => ?_); refine Qj J J J (Qa 0 J J zvFrac J J J (Qj J J J (Qv (hK _ _ (Qz (Qy (Qy ?_))))))); clear hK K; refine Qx (fun K hK => ?_); refine Qq J J J (Qq J J J (QX goLValid hV J J J J (Qe J J J (Qv (hK _ _ (Qz (Qr J (Q0 (Qz (Qy (Qy ?_))))))))))); clear hK K; refine Qx (fun K hK => ?_); refine Qq J J J (Qq J J J (QX gomultipliers hM J J J J (Qe J J J (Qv (hK _ _ (Qz (Qr J (Q0 (Qz (Qy ?_)))))))))); clear hK K; refine Qx (fun K hK => ?_); refine Qj J J J (Qv (hK _ _ (Qz (Qy (Qy ?_))))); clear hK K; refine Qx (fun K hK => ?_); refine Qq J J J (Qq J J J (Qv (hK _ _ (Qz (Q4 ?_))))); clear hK K
  refine Zx 9 1 38 3 J J J ?_
  skip
  refine Qn (α := Nat) (fun i => i ≤ n)
    (fun i => [(1, .ct (rowsC rs)), (2, .ct (fracsC ys)), (7, .own 0), (9, .own 1), (25, .ct (intC n)), (26, .ct (intC i))])
    (fun i => [(1, .row 38 3 (rts (colsQ rs ys i))), (0, .box 38 [.ex (.bool false), .ex (.slice none 0 0), .ex (.slice none 0 0)])]) (fun i => n - i) 0 (Nat.zero_le _) (by exact QJ J ⟨rfl, rfl, rfl, rfl, rfl, rfl, trivial⟩) ?_
  intro i hi; dsimp only at hi ⊢; refine Qy (Qx fun K hK => ?_); refine Qk ilss J J J J (Qv (hK _ _ (Qz (Qy ?_)))); clear hK K; refine Q1 J (fun h => ?_) (fun h => ?_)
  · refine Q0 (Qz (Qy (Q4 (Qy (Qx fun K hK => ?_))))); refine Qq J J J (Qa 2 J J zvInt J J J (Ops.st1O J J J J J zInt (Qv (hK _ _ (Qz (Qy ?_)))))); clear hK K; refine Qx (fun K hK => ?_); refine Qq J J J (Qq J J J (Zb 2 _ J J XV (Ops.makeFunc J J J (QX gofold (hF i (by omega)) J J J J ?_)))); refine Qq J J J (QZ J J J J (QZ J J J J (Qa 2 J J zvFrac J J J (Q8 3 J J J J J szFrac J J (Qj J J J (Qv (hK _ _ (Qz (Qy (Qy ?_)))))))))); clear hK K; refine Qx (fun K hK => ?_); refine Qq J J J (Qk ineq J J J J (Qv (hK _ _ (Qz (Qr J (Q0 (Qz ?_))))))); clear hK K; refine Qx (fun K hK => ?_); refine Qq J J J (Qd (n := 3) J J J J J Qg J (Ops.litN (n := 3) J J sFracs J J (by decide) J ?_))
    refine Qt i (rts (colsQ rs ys (i + 1))) J J J J sFracs (by rw [rts_len]; simp [colsQ]) J (by omega) (by omega) (by unfold colsQ; rw [List.range_succ, List.map_append]; exact rts_snoc _ _) J ?_
    refine Qj J J J (Qv (hK _ _ (Qz ?_))); clear hK K; refine Qx (fun K hK => ?_)
    refine Qk (iadd (by omega) (by omega)) J J J J ?_
    refine Qq J J J (Qv (hK _ _ (Q7 ?_))); clear hK K; refine Xy 2 (Qb (i + 1) (by omega) (by omega) (by exact QJ J ⟨rfl, rfl, rfl, rfl, rfl, by simp only [Int.natCast_add]; rfl, trivial⟩))
  · have hi' : i = n := by omega
    subst hi'; refine X6 1 _ J (rts_frozen _ _) XV (Qm (Qz (Qy (Qx fun K hK => ?_)))); refine Qq J J J (Qq J J J (QX gofold hB J J J J (Qq J J J (QZ J J J J (QZ J J J J (Qa 1 J J zvFrac J J J (Q8 3 J J J J J szFrac J J (Qj J J J (Qv (hK _ _ (Qz (Qy (Qy ?_))))))))))))); clear hK K; refine Qx (fun K hK => ?_); refine Qq J J J (Qk ineq J J J J (Qv (hK _ _ (Qz (Qr J (Q0 (Qz (Qy ?_)))))))); clear hK K; refine Xz mixed 3 (.p 0 (.p 2 (.f 1 (.a 3 (.p 4 .done))))) (by kernel_rfl) (fun K hK => ?_); refine Qq J J J (Qj J J J (Qd (n := 3) J J J J J Qg J (Q8 3 J J J J J szFrac J J (Qj J J J (Qv (hK _ _ (Qz (QU ?_)))))))); clear hK K; refine QY [_, _, _] rfl (Qu J (Qp (n := 3) J J Qg J (Qu J QQ))) J J
theorem less_q (a b : Rat) (ha : SzQ a) (hb : SzQ b) : Ok Tryz.prog 101 [ratC a, ratC b] (boolC (decide (cmpQ a b < 0))) := by
  refine Ok.enter Tryz.func101 J _ Tryz.ntmps101 J ?_
  intro S w; refine Qy (Qx fun K hK => ?_); refine Qh 0 J J J J J J J (Qh 1 J J J J J J J (Qj J J J (Qv (hK _ _ (Qz (Qy ?_)))))); clear hK K; refine Qx (fun K hK => ?_); refine Qd (n := 3) J J J J J Qg J (Qd (n := 3) J J J J J Qg J (QX goFCompare (FCompare_q a b (by have := ha.n; omega) (by have := ha.d; omega) (by have := hb.n; omega) (by have := hb.d; omega)) J J J J ?_)); refine Qq J J J (QZ J J J J (QZ J J J J (Qj J J J (Qj J J J (Qv (hK _ _ (Qz (Qy ?_)))))))); clear hK K; refine Qx (fun K hK => ?_); refine Qq J J J (Qk ilss J J J J (Qj J J J (Qv (hK _ _ (Qz (QU ?_)))))); clear hK K; refine QY [_] rfl (Qu J QQ) J J
theorem SzQ.int {b : Int} (h : b.natAbs ≤ 4503599627370496) : SzQ (b : Rat) := ⟨by have := (int_lens h).1; omega, by have := (int_lens h).2; omega⟩
def covQ (os : List Rat) (c : List Int) : Bool := decide (c.length ≤ os.length) && (List.range os.length).all fun j => !decide (cmpQ (os.getD j 0) (c.getD j 0 : Rat) < 0)
set_option maxHeartbeats 4000000 in
theorem covers_q (os : List Rat) (c : List Int) (hl : os.length ≤ 64) (hlc : c.length ≤ 64) (ho : ∀ y ∈ os, SzQ y) (hc : ∀ y ∈ c, y.natAbs ≤ 4503599627370496) : Ok Tryz.prog 100 [ratsC os, intsC c] (boolC (covQ os c)) := by
  refine Ok.enter Tryz.func100 J _ Tryz.ntmps100 J ?_
  intro S w; refine Qy (Qx fun K hK => ?_); refine Qj J J J (Qv (hK _ _ (Qz (Qy (Qy ?_))))); clear hK K; refine Qx (fun K hK => ?_); refine Qq J J J (Q3 J J sInts.und (List.length_map ..) J (Qq J J J (Q3 J J sFracs.und (List.length_map ..) J (Qk igtr J J J J (Qv (hK _ _ (Qz ?_))))))); clear hK K; refine Q1 J (fun h => ?_) (fun h => ?_)
  · refine Qy (Qx fun K hK => ?_); refine Qj J J J (Qv (hK _ _ (Qz (QU (QV ?_))))); clear hK K; refine QY [_] rfl (Qu J QQ) (by unfold covQ; rw [decide_eq_false (show ¬ c.length ≤ os.length by omega)]; rfl) J
  have hle : c.length ≤ os.length := by omega
  clear h; refine Q0 (Qz (Qy (Qy (Qx fun K hK => ?_)))); refine Qq J J J (Q3 J J sFracs.und (List.length_map ..) J (Qq J J J (Qv (hK _ _ (Qz (Q4 ?_)))))); clear hK K
  refine Qn (α := Nat) (fun i => i ≤ os.length ∧ ∀ j, j < i → ¬ cmpQ (os.getD j 0) (c.getD j 0 : Rat) < 0)
    (fun i => [(1, .ct (intsC c)), (15, .ct (ratsC os)), (16, .ct (intC os.length)), (17, .ct (intC i))]) (fun _ => []) (fun i => os.length - i) 0 ⟨Nat.zero_le _, fun j h => absurd h (Nat.not_lt_zero j)⟩ (by exact QJ J ⟨rfl, rfl, rfl, rfl, trivial⟩) ?_
  intro i ⟨hi, hj⟩; dsimp only at hi hj ⊢; refine Qy (Qx fun K hK => ?_); refine Qk ilss J J J J (Qv (hK _ _ (Qz (Qy ?_)))); clear hK K; refine Q1 J (fun h => ?_) (fun h => ?_)
  · have e2 : (i : Int).toNat = i := Int.toNat_natCast i
    have hlt : i < os.length := by omega
    have b0 := ho (os.getD i 0) (Xj hlt)
    have b1 : (c.getD i 0).natAbs ≤ 4503599627370496 := by
      rcases Nat.lt_or_ge i c.length with h | h
      · exact hc _ (Xj h)
      · rw [List.getD_eq_getElem?_getD, List.getElem?_eq_none (by omega)]; decide
    have hbad : cmpQ (os.getD i 0) (c.getD i 0 : Rat) < 0 → covQ os c = false := fun hgt => by
      unfold covQ; rw [List.all_eq_false.mpr ⟨i, List.mem_range.mpr hlt, by rw [decide_eq_true hgt]; decide⟩, Bool.and_false]
    have hgood : ¬ (cmpQ (os.getD i 0) (c.getD i 0 : Rat) < 0) → ∀ j, j < i + 1 → ¬ cmpQ (os.getD j 0) (c.getD j 0 : Rat) < 0 := fun hng j hj' => by
      rcases Nat.lt_or_ge j i with h3 | h3
      · exact hj j h3
      · have : j = i := by omega
        rw [this]; exact hng
    refine Q0 (Qz (Qy (Q4 (Qy (Qx fun K hK => ?_))))); refine Qq J J J (Qc J J J sFracs (by omega) (Xl (by omega) (by omega)) J ?_); refine Xk (n := 3) J J J Qg J J (Qa 0 J J zvFrac J J J (Qj J J J (Q8 3 J J J J J szFrac J J (Qv (hK _ _ (Qz (Qy ?_))))))); clear hK K; refine Qx (fun K hK => ?_); refine Qj J J J (Qv (hK _ _ (Qz (Qy (Qy ?_))))); clear hK K; refine Qx (fun K hK => ?_); refine Qq J J J (Qq J J J (Q3 J J sInts.und (List.length_map ..) J (Qk ilss J J J J (Qv (hK _ _ (Qz ?_)))))); clear hK K; rw [e2]; skip; refine Q1 J (fun h3 => ?_) (fun h3 => ?_)
    · refine Qx (fun K hK => ?_); refine Qq J J J (Qq J J J (Qc J J J sInts (by omega) (Xw (by omega) (by omega)) J ?_)); refine Ql J J J lInt J (Qj J J J (Qv (hK _ _ (Qz (Qy ?_))))); clear hK K; refine Qx (fun K hK => ?_)
      refine Qq J J J ?_
      rw [e2]; skip
      refine QX Yc (From_int (c.getD i 0) (by omega) (by omega)) J J J J ?_
      refine Qq J J J (QZ J J J J (QZ J J J J (Qa 1 J J zvFrac J J J (Q8 3 J J J J J szFrac J J (Qj J J J (Qv (hK _ _ (Qz (Qy ?_))))))))); clear hK K; refine Qx (fun K hK => ?_); refine Qd (n := 3) J J J J J Qg J (Qd (n := 3) J J J J J Qg J (QX goless (less_q (os.getD i 0) (c.getD i 0 : Rat) b0 (SzQ.int b1)) J J J J (Qv (hK _ _ (Qz ?_))))); clear hK K; refine Q1 J (fun h4 => ?_) (fun h4 => ?_)
      · refine Qy (Qx fun K hK => ?_); refine Qj J J J (Qv (hK _ _ (Qz (QU (Q5 (QV (QV (Q5 (QV ?_))))))))); clear hK K; refine QY [_] rfl (Qu J QQ) (by rw [hbad h4]; rfl) J
      · refine Q0 (Qz (Qx fun K hK => ?_))
        refine Qk (iadd (by omega) (by omega)) J J J J ?_
        refine Qq J J J (Qv (hK _ _ (Q7 ?_))); clear hK K; refine Xy 1 (Xy 0 ?_); refine Qb (i + 1) (by omega) ⟨by omega, hgood h4⟩ (by exact QJ J ⟨rfl, rfl, rfl, by simp only [Int.natCast_add]; rfl, trivial⟩)
    · have ec : c.getD i 0 = 0 := by rw [List.getD_eq_getElem?_getD, List.getElem?_eq_none (by omega)]; rfl
      refine Q0 (Qz (Qy (Qx fun K hK => ?_))); refine Qq J J J (QX Yc (From_int 0 (by omega) (by omega)) J J J J ?_); refine Qq J J J (QZ J J J J (QZ J J J J (Qa 1 J J zvFrac J J J (Q8 3 J J J J J szFrac J J (Qj J J J (Qv (hK _ _ (Qz (Qy ?_))))))))); clear hK K; refine Qx (fun K hK => ?_); refine Qd (n := 3) J J J J J Qg J (Qd (n := 3) J J J J J Qg J (QX goless (less_q (os.getD i 0) ((0 : Int) : Rat) b0 (SzQ.int (by decide))) J J J J ?_)); refine Qv (hK _ _ (Qz ?_)); clear hK K; refine Q1 J (fun h4 => ?_) (fun h4 => ?_)
      · refine Qy (Qx fun K hK => ?_); refine Qj J J J (Qv (hK _ _ (Qz (QU (Q5 (QV (QV (Q5 (QV ?_))))))))); clear hK K; refine QY [_] rfl (Qu J QQ) (by rw [hbad (by rw [ec]; exact h4)]; rfl) J
      · refine Q0 (Qz (Qx fun K hK => ?_))
        refine Qk (iadd (by omega) (by omega)) J J J J ?_
        refine Qq J J J (Qv (hK _ _ (Q7 ?_))); clear hK K; refine Xy 1 (Xy 0 ?_); refine Qb (i + 1) (by omega) ⟨by omega, hgood (by rw [ec]; exact h4)⟩ (by exact QJ J ⟨rfl, rfl, rfl, by simp only [Int.natCast_add]; rfl, trivial⟩)
  · have hi' : i = os.length := by omega
    refine Qm (Qz (Qy (Qx fun K hK => ?_))); refine Qj J J J (Qv (hK _ _ (Qz (QU ?_)))); clear hK K
    refine QY [_] rfl (Qu J QQ) (by
      unfold covQ
      rw [decide_eq_true hle, List.all_eq_true.mpr (fun j hj2 => by rw [decide_eq_false (hj j (by have := List.mem_range.mp hj2; omega))]; rfl)]; rfl) J
theorem SzQ.vf {q : Rat} (h : SzQ q) : VF (ofQ q) := VF.q q h.n h.d
theorem Mul.cols {n : Nat} {rs : List Rw} {ys : List Fr} (H : Mul n rs ys) : ∀ q ∈ colsQ rs ys n, SzQ q := fun q hq => by
  obtain ⟨j, hj, rfl⟩ := List.mem_map.1 hq
  exact (H.c j (List.mem_range.1 hj)).2
theorem colsQ_len (rs : List Rw) (ys : List Fr) (n : Nat) : (colsQ rs ys n).length = n := by simp [colsQ]
set_option maxHeartbeats 4000000 in
theorem Refutes_gen (n : Nat) (rs : List Rw) (ys : List Fr) (hv : validR n rs = true) (H : Mul n rs ys) :
    Ok Tryz.prog 49 [intC n, rowsC rs, fracsC ys] (boolC (decide ((bsQ rs ys).num < 0) && covQ (colsQ rs ys n) [])) := by
  have h1 := Combine_gen n rs ys hv H; have h2 := (covers_q (colsQ rs ys n) [] (by rw [colsQ_len]; have := (X4 hv).2.1; omega) (by simp) H.cols (fun y h => by cases h)).weak (As' := [_, .ex (.slice none 0 0)]) ⟨Z4, w_nil, trivial⟩; generalize colsQ rs ys n = os at *; have h3 : (ofQ (bsQ rs ys)).neg = decide ((bsQ rs ys).num < 0) := rfl; generalize decide ((bsQ rs ys).num < 0) = bn at *
  refine Ok.enter Tryz.func49 J _ Tryz.ntmps49 J ?_
  intro S w; refine Qy (Qx fun K hK => ?_); refine Qj J J J (Qv (hK _ _ (Qz (Qy ?_)))); clear hK K; refine Qx (fun K hK => ?_); refine Qq J J J (Qq J J J (Qq J J J (QX goCombine h1 J J J J (Qq J J J (QZ J J J J (QZ J J J J (QZ J J J J (Qa 0 J J zvFrac J J J (Qj J J J (Q8 3 J J J J J szFrac J J (Qj J J J (Qv (hK _ _ (Qz (Qy ?_))))))))))))))); clear hK K; refine Qx (fun K hK => ?_); refine Qq J J J (Qk ieql J J J J (Qq J J J (QW J J J fF0 J (QK J J J J J lBool J (Q6 J J J J (Qq J J J (Xe 24 J (fun h => ?_) (fun h => ?_))))))))
  · refine Qq J J J (QX gocovers h2 J J J J (Q6 J J J J (Qj J J J (Qv (hK _ _ (Qz (QU ?_))))))); clear hK K; refine QY [_] rfl (Qu J QQ) (by rw [← h3, h]; rfl) J
  · refine Qw J J J (Qw J J J (Q2 J J J J (Qj J J J (Qv (hK _ _ (Qz (QU ?_))))))); clear hK K; refine QY [_] rfl (Qu J QQ) (by rw [← h3, h]; rfl) J
theorem gozero : InGo Tryz.prog 108 := InGo.of Tryz.func108 (by kernel_rfl) (by kernel_rfl)
theorem gogrows1 : InGo Tryz.prog 149 := InGo.of Tryz.func149 (by kernel_rfl) (by kernel_rfl)
theorem grows1_V (f : Fr) (h : VF f) : Ok Tryz.prog 149 [fracC f] (boolC f.neg) := by
  refine Ok.enter Tryz.func149 J _ Tryz.ntmps149 J ?_
  intro S w; refine Qy (Qx fun K hK => ?_); refine Qh 0 J J J J J J J (Qj J J J (Qv (hK _ _ (Qz (Qy ?_))))); clear hK K; refine Qx (fun K hK => ?_); refine Qd (n := 3) J J J J J Qg J (QX Yx (FValid_V f h) J J J J (Qe J J J (Qq J J J (QW J J J fF0 J (QK J J J J J lBool J (Q2 J J J J (Qj J J J (Qv (hK _ _ (Qz (QU ?_))))))))))); clear hK K; refine QY [_] rfl (Qu J QQ) J J
theorem gorCombine : InGo Tryz.prog 47 := InGo.of Tryz.func47 (by kernel_rfl) (by kernel_rfl)
set_option maxHeartbeats 8000000 in
theorem Ym (n : Nat) (rs : List Rw) (ys : List Fr) (hv : validR n rs = true) (H : Mul n rs ys) :
    Ok Tryz.prog 47 [intC n, rowsC rs, fracsC ys] (.fr (tupT [ratsC (colsQ rs ys n), ratC (bsQ rs ys), intC 0])) := by
  obtain ⟨v1, v2, v3, v4⟩ := X4 hv; have hV := Zc n rs (by omega) (fun r hr => by have := (v4 r hr).1; omega); rw [hv] at hV; have hl := H.len; have hP := Point_ok rs.length ys (by omega) H.vf; rw [decide_eq_true (show (ys.length : Int) = (rs.length : Int) by omega), show ys.any (fun f => f.neg) = false from List.any_eq_false.2 fun f hf => by rw [H.nn f hf]; decide] at hP; have hP : Ok Tryz.prog 66 [intC rs.length, fracsC ys] (boolC true) := hP
  refine Ok.enter Tryz.func47 J _ Tryz.ntmps47 J ?_
  intro S w; refine Qy (Qx fun K hK => ?_); refine Qj J J J (Qa 0 J J zvFrac J J J (Qj J J J (Qv (hK _ _ (Qz (Qy (Qy ?_))))))); clear hK K; refine Qx (fun K hK => ?_); refine Qq J J J (Qq J J J (QX gorLValid hV J J J J (Qe J J J (Qv (hK _ _ (Qz (Qr J (Q0 (Qz (Qy (Qy ?_))))))))))); clear hK K; refine Qx (fun K hK => ?_); refine Qq J J J (Q3 J J sRows.und (List.length_map ..) J (Qq J J J (QX goPoint hP J J J J (Qe J J J (Qv (hK _ _ (Qz (Qr J (Q0 (Qz (Qy ?_))))))))))); clear hK K; refine Qx (fun K hK => ?_); refine Qj J J J (Qv (hK _ _ (Qz (Qy (Qy ?_))))); clear hK K; refine Qx (fun K hK => ?_); refine Qj J J J (Qv (hK _ _ (Qz (Q4 ?_)))); clear hK K
  refine Zx 9 1 38 3 J J J ?_
  refine Qn (α := Nat) (fun i => i ≤ n)
    (fun i => [(0, .ct (intC n)), (1, .ct (rowsC rs)), (2, .ct (fracsC ys)), (7, .own 0), (9, .own 1), (10, .ct (intC i))])
    (fun i => [(1, .row 38 3 (rts (colsQ rs ys i))), (0, .box 38 [.ex (.bool false), .ex (.slice none 0 0), .ex (.slice none 0 0)])]) (fun i => n - i) 0 (Nat.zero_le _) (by exact QJ J ⟨rfl, rfl, rfl, rfl, rfl, rfl, trivial⟩) ?_
  intro i hi
  (try dsimp only at hi ⊢)
  refine Qy (Qy (Qx fun K hK => ?_)); refine Qq J J J (Qq J J J (Qk ilss J J J J (Qv (hK _ _ (Qz ?_))))); clear hK K; refine Q1 J (fun h => ?_) (fun h => ?_)
  · refine Q0 (Qz (Qy (Q4 (Qy (Qx fun K hK => ?_))))); refine Qj J J J (Qv (hK _ _ (Qz (Qy (Qy ?_))))); clear hK K; refine Qx (fun K hK => ?_); refine Qj J J J (Qv (hK _ _ (Qz (Q4 ?_)))); clear hK K
    refine Zx 11 2 3 1 J J J ?_
    refine Qn (α := Nat) (fun k => k ≤ rs.length)
      (fun k => [(0, .ct (intC n)), (1, .ct (rowsC rs)), (2, .ct (fracsC ys)), (7, .own 0), (9, .own 1), (10, .ct (intC i)), (11, .own 2), (12, .ct (intC k))])
      (fun k => [(2, .row 3 1 (ints ((rs.take k).map fun r => r.cs.getD i 0))), (1, .row 38 3 (rts (colsQ rs ys i))), (0, .box 38 [.ex (.bool false), .ex (.slice none 0 0), .ex (.slice none 0 0)])]) (fun k => rs.length - k) 0 (Nat.zero_le _) (by exact QJ J ⟨rfl, rfl, rfl, rfl, rfl, rfl, rfl, rfl, trivial⟩) ?_
    intro k hk
    (try dsimp only at hk ⊢)
    refine Qy (Qy (Qx fun K hK => ?_)); refine Qq J J J (Qq J J J (Q3 J J sRows.und (List.length_map ..) J (Qk ilss J J J J (Qv (hK _ _ (Qz ?_)))))); clear hK K; refine Q1 J (fun h2 => ?_) (fun h2 => ?_)
    · have e2 : (k : Int).toNat = k := Int.toNat_natCast k; have e3 : (i : Int).toNat = i := Int.toNat_natCast i
      have hlt : k < rs.length := by omega
      refine Q0 (Qz (Qy (Q4 (Qy (Qx fun K hK => ?_))))); refine Qj J J J (Qv (hK _ _ (Qz (Qy (Qy ?_))))); clear hK K; refine Qx (fun K hK => ?_); refine Qq J J J (Qq J J J (Qq J J J (Qc J J J sRows (by omega) (ZQ (by omega) (by omega)) J ?_))); refine ZJ J J fR0 J (Ql J J J lInts J (Q3 J J sInts.und (List.length_map ..) J (Qk ilss J J J J (Qv (hK _ _ (Qz ?_)))))); clear hK K; rw [e2]; skip; refine Q1 J (fun h3 => ?_) (fun h3 => ?_)
      · refine Qx (fun K hK => ?_); refine Qq J J J (Qq J J J (Qc J J J sRows (by omega) (ZQ (by omega) (by omega)) J ?_)); refine ZJ J J fR0 J (Ql J J J lInts J (Qq J J J ?_)); rw [e2]
        refine Qc J J J sInts (by omega) (Xw (by omega) (by omega)) J ?_
        refine Ql J J J lInt J (Qj J J J (Qv (hK _ _ (Qz ?_)))); clear hK K; refine Qx (fun K hK => ?_); refine Qq J J J (Qq J J J ?_); rw [e3]; skip; refine XZ J J sInts J J J (Qt k (ints ((rs.take (k + 1)).map fun r => r.cs.getD i 0)) J J J J sInts (by simp [ints]; omega) J (by omega) (by omega) (by rw [Y1 (fun r : Rw => r.cs.getD i 0) rw0 hlt]; simp [ints]) J ?_); refine Qj J J J (Qv (hK _ _ (Qz ?_))); clear hK K; refine Qx (fun K hK => ?_); refine Qq J J J (Qk (iadd (by omega) (by omega)) J J J J ?_); refine Qj J J J (Qv (hK _ _ (Q7 ?_))); clear hK K; refine Qb (k + 1) (by omega) (by omega) (by exact QJ J ⟨rfl, rfl, rfl, rfl, rfl, rfl, rfl, by simp only [Int.natCast_add]; rfl, trivial⟩)
      · have ec : (rs.getD k rw0).cs.getD i 0 = 0 := getD_ge (by omega); refine Q0 (Qz (Qx fun K hK => ?_)); refine Qq J J J (Qq J J J (XZ J J sInts J J J (Qt k (ints ((rs.take (k + 1)).map fun r => r.cs.getD i 0)) J J J J sInts (by simp [ints]; omega) J (by omega) (by omega) (by rw [Y1 (fun r : Rw => r.cs.getD i 0) rw0 hlt, ec]; simp [ints]) J ?_))); refine Qj J J J (Qv (hK _ _ (Qz ?_))); clear hK K; refine Qx (fun K hK => ?_); refine Qq J J J (Qk (iadd (by omega) (by omega)) J J J J ?_); refine Qj J J J (Qv (hK _ _ (Q7 ?_))); clear hK K; refine Qb (k + 1) (by omega) (by omega) (by exact QJ J ⟨rfl, rfl, rfl, rfl, rfl, rfl, rfl, by simp only [Int.natCast_add]; rfl, trivial⟩)
    · have hk' : k = rs.length := by omega
      subst hk'; rw [List.take_length]
      refine X6 2 _ J (X1 _ _) XV ?_
      have hVi := rValue_gen _ ys (H.c i (by omega)).1; refine Qm (Qz (Qy (Qx fun K hK => ?_))); refine Qq J J J (Qq J J J (QX gorValue hVi J J J J (Qq J J J (QZ J J J J (QZ J J J J (Qa 2 J J zvFrac J J J (Q8 3 J J J J J szFrac J J (Qj J J J (Qv (hK _ _ (Qz (Qy (Qy ?_))))))))))))); clear hK K; refine Qx (fun K hK => ?_); refine Qq J J J (Qk ineq J J J J (Qv (hK _ _ (Qz (Qr J (Q0 (Qz ?_))))))); clear hK K; refine Qx (fun K hK => ?_); refine Qq J J J (Qd (n := 3) J J J J J Qg J (Ops.litN (n := 3) J J sFracs J J (by decide) J ?_))
      refine Qt i (rts (colsQ rs ys (i + 1))) J J J J sFracs (by rw [rts_len]; simp [colsQ]) J (by omega) (by omega) (by unfold colsQ; rw [List.range_succ, List.map_append]; exact rts_snoc _ _) J ?_
      refine Qj J J J (Qv (hK _ _ (Qz ?_))); clear hK K; refine Qx (fun K hK => ?_); refine Qq J J J (Qk (iadd (by omega) (by omega)) J J J J ?_); refine Qj J J J (Qv (hK _ _ (Q7 ?_))); clear hK K; refine Xy 2 (Qb (i + 1) (by omega) (by omega) (by exact QJ J ⟨rfl, rfl, rfl, rfl, rfl, by simp only [Int.natCast_add]; rfl, trivial⟩))
  · have hi' : i = n := by omega
    subst hi'; refine X6 1 _ J (rts_frozen _ _) XV (Qm (Qz (Qy (Qx fun K hK => ?_)))); refine Qj J J J (Qv (hK _ _ (Qz (Qy (Qy ?_))))); clear hK K; refine Qx (fun K hK => ?_); refine Qj J J J (Qv (hK _ _ (Qz (Q4 ?_)))); clear hK K
    refine Zx 16 2 3 1 J J J ?_
    refine Qn (α := Nat) (fun k => k ≤ rs.length)
      (fun k => [(1, .ct (rowsC rs)), (2, .ct (fracsC ys)), (7, .own 0), (9, .ct (ratsC (colsQ rs ys i))), (16, .own 2), (17, .ct (intC k))])
      (fun k => [(2, .row 3 1 (ints ((rs.take k).map fun r => r.b))), (0, .box 38 [.ex (.bool false), .ex (.slice none 0 0), .ex (.slice none 0 0)])]) (fun k => rs.length - k) 0 (Nat.zero_le _) (by exact QJ J ⟨rfl, rfl, rfl, rfl, rfl, rfl, trivial⟩) ?_
    intro k hk
    (try dsimp only at hk ⊢)
    refine Qy (Qy (Qx fun K hK => ?_)); refine Qq J J J (Qq J J J (Q3 J J sRows.und (List.length_map ..) J (Qk ilss J J J J (Qv (hK _ _ (Qz ?_)))))); clear hK K; refine Q1 J (fun h2 => ?_) (fun h2 => ?_)
    · have e2 : (k : Int).toNat = k := Int.toNat_natCast k
      have hlt : k < rs.length := by omega
      refine Q0 (Qz (Qy (Q4 (Qx fun K hK => ?_)))); refine Qq J J J (Qq J J J (Qq J J J (Qc J J J sRows (by omega) (ZQ (by omega) (by omega)) J ?_))); refine ZJ J J fR1 J (Ql J J J lInt J ?_); rw [e2]; skip; refine XZ J J sInts J J J (Qt k (ints ((rs.take (k + 1)).map fun r => r.b)) J J J J sInts (by simp [ints]; omega) J (by omega) (by omega) (by rw [Y1 (fun r : Rw => r.b) rw0 hlt]; simp [ints]) J ?_); refine Qj J J J (Qv (hK _ _ (Qz ?_))); clear hK K; refine Qx (fun K hK => ?_); refine Qq J J J (Qk (iadd (by omega) (by omega)) J J J J ?_); refine Qj J J J (Qv (hK _ _ (Q7 ?_))); clear hK K; refine Qb (k + 1) (by omega) (by omega) (by exact QJ J ⟨rfl, rfl, rfl, rfl, rfl, by simp only [Int.natCast_add]; rfl, trivial⟩)
    · have hk' : k = rs.length := by omega
      subst hk'; rw [List.take_length]
      refine X6 2 _ J (X1 _ _) XV ?_
      have hVb := rValue_gen _ ys H.b.1; refine Qm (Qz (Qy (Qx fun K hK => ?_))); refine Qq J J J (Qq J J J (QX gorValue hVb J J J J (Qq J J J (QZ J J J J (QZ J J J J (Qa 1 J J zvFrac J J J (Q8 3 J J J J J szFrac J J (Qj J J J (Qv (hK _ _ (Qz (Qy (Qy ?_))))))))))))); clear hK K; refine Qx (fun K hK => ?_); refine Qq J J J (Qk ineq J J J J (Qv (hK _ _ (Qz (Qr J (Q0 (Qz (Qy ?_)))))))); clear hK K; refine Xz mixed 3 (.p 0 (.p 2 (.f 1 (.a 3 (.p 4 .done))))) (by kernel_rfl) (fun K hK => ?_); refine Qq J J J (Qj J J J (Qd (n := 3) J J J J J Qg J (Q8 3 J J J J J szFrac J J (Qj J J J (Qv (hK _ _ (Qz (QU ?_)))))))); clear hK K; refine QY [_, _, _] rfl (Qu J (Qp (n := 3) J J Qg J (Qu J QQ))) J J
theorem cmpQ_flip (p q : Rat) : 0 < cmpQ p q ↔ cmpQ q p < 0 := by
  unfold cmpQ; rw [Int.sign_pos_iff, Int.sign_neg_iff]; omega
theorem gorcovers : InGo Tryz.prog 110 := InGo.of Tryz.func110 (by kernel_rfl) (by kernel_rfl)
set_option maxHeartbeats 4000000 in
theorem rcovers_q (os : List Rat) (c : List Int) (hl : os.length ≤ 64) (hlc : c.length ≤ 64) (ho : ∀ y ∈ os, SzQ y) (hc : ∀ y ∈ c, y.natAbs ≤ 4503599627370496) : Ok Tryz.prog 110 [intsC c, ratsC os] (boolC (covQ os c)) := by
  refine Ok.enter Tryz.func110 J _ Tryz.ntmps110 J ?_
  intro S w; refine Qy (Qx fun K hK => ?_); refine Qj J J J (Qv (hK _ _ (Qz (Qy (Qy ?_))))); clear hK K; refine Qx (fun K hK => ?_); refine Qq J J J (Q3 J J sInts.und (List.length_map ..) J (Qq J J J (Q3 J J sFracs.und (List.length_map ..) J (Qk igtr J J J J (Qv (hK _ _ (Qz ?_))))))); clear hK K; refine Q1 J (fun h => ?_) (fun h => ?_)
  · refine Qy (Qx fun K hK => ?_); refine Qj J J J (Qv (hK _ _ (Qz (QU (QV ?_))))); clear hK K; refine QY [_] rfl (Qu J QQ) (by unfold covQ; rw [decide_eq_false (show ¬ c.length ≤ os.length by omega)]; rfl) J
  have hle : c.length ≤ os.length := by omega
  clear h; refine Q0 (Qz (Qy (Qy (Qx fun K hK => ?_)))); refine Qj J J J (Qv (hK _ _ (Qz (Q4 ?_)))); clear hK K
  refine Qn (α := Nat) (fun i => i ≤ os.length ∧ ∀ j, j < i → ¬ cmpQ (os.getD j 0) (c.getD j 0 : Rat) < 0)
    (fun i => [(0, .ct (intsC c)), (1, .ct (ratsC os)), (5, .ct (intC i))]) (fun _ => []) (fun i => os.length - i) 0 ⟨Nat.zero_le _, fun j h => absurd h (Nat.not_lt_zero j)⟩ (by exact QJ J ⟨rfl, rfl, rfl, trivial⟩) ?_
  intro i ⟨hi, hj⟩; dsimp only at hi hj ⊢; refine Qy (Qy (Qx fun K hK => ?_)); refine Qq J J J (Qq J J J (Q3 J J sFracs.und (List.length_map ..) J (Qk ilss J J J J (Qv (hK _ _ (Qz ?_)))))); clear hK K; refine Q1 J (fun h => ?_) (fun h => ?_)
  · have e2 : (i : Int).toNat = i := Int.toNat_natCast i
    have hlt : i < os.length := by omega
    have b0 := ho (os.getD i 0) (Xj hlt)
    have b1 : (c.getD i 0).natAbs ≤ 4503599627370496 := by
      rcases Nat.lt_or_ge i c.length with h | h
      · exact hc _ (Xj h)
      · rw [getD_ge h]; decide
    have hbad : 0 < cmpQ (c.getD i 0 : Rat) (os.getD i 0) → covQ os c = false := fun hgt => by
      unfold covQ; rw [List.all_eq_false.mpr ⟨i, List.mem_range.mpr hlt, by rw [decide_eq_true ((cmpQ_flip _ _).1 hgt)]; decide⟩, Bool.and_false]
    have hgood : ¬ 0 < cmpQ (c.getD i 0 : Rat) (os.getD i 0) → ∀ j, j < i + 1 → ¬ cmpQ (os.getD j 0) (c.getD j 0 : Rat) < 0 := fun hng j hj' => by
      rcases Nat.lt_or_ge j i with h3 | h3
      · exact hj j h3
      · have : j = i := by omega
        rw [this]; exact fun h => hng ((cmpQ_flip _ _).2 h)
    have hW := Z2 (c.getD i 0) (by omega) (by omega); have i1 := SzQ.int b1; have hC := rFCompare_q (c.getD i 0 : Rat) (os.getD i 0) (by have := i1.n; omega) (by have := i1.d; omega) (by have := b0.n; omega) (by have := b0.d; omega); generalize hci : c.getD i 0 = ci at *; refine Q0 (Qz (Qy (Q4 (Qy (Qx fun K hK => ?_))))); refine Qj J J J (Qv (hK _ _ (Qz (Qy (Qy ?_))))); clear hK K; refine Qx (fun K hK => ?_); refine Qq J J J (Qq J J J (Q3 J J sInts.und (List.length_map ..) J (Qk ilss J J J J (Qv (hK _ _ (Qz ?_)))))); clear hK K; refine Zq (α := Unit) (fun _ => True) (fun _ => [(0, .ct (intsC c)), (1, .ct (ratsC os)), (5, .ct (intC i)), (6, .ct (intC ci))]) (fun _ => []) (fun _ _ => ?_) (fun KK hN => ?_); rotate_left
    · refine Q1 J (fun h3 => ?_) (fun h3 => ?_)
      · refine Qx (fun K hK => ?_); refine Qq J J J (Qq J J J (Qc J J J sInts (by omega) (Xw (by omega) (by omega)) J ?_)); refine Ql J J J lInt J (Qj J J J (Qv (hK _ _ ?_))); clear hK K; rw [e2, hci]; skip; exact XW hN () trivial (by exact QJ J ⟨rfl, rfl, rfl, rfl, trivial⟩)
      · have ec : ci = 0 := by rw [← hci]; exact getD_ge (by omega)
        subst ec
        refine Q0 ?_
        exact XW hN () trivial (by exact QJ J ⟨rfl, rfl, rfl, rfl, trivial⟩)
    clear hci; refine Qy (Xz mixed 12 (.p 0 (.p 2 (.p 3 (.p 4 (.f 5 (.m 1 (.m 6 (.p 7 (.p 8 (.p 9 (.p 10 (.p 11 .done)))))))))))) (by kernel_rfl) (fun K hK => ?_)); refine Qq J J J (Qq J J J (Qq J J J (Qc J J J sFracs (by omega) (Xl (by omega) (by omega)) J ?_)))
    refine Xk (n := 3) J J J Qg J J ?_
    rw [e2]; skip; refine QX Z9 hW J J J J (QX YK hC J J J J (Qq J J J (QZ J J J J (QZ J J J J (Qj J J J (Qj J J J (Qv (hK _ _ (Qz (Qy ?_)))))))))); clear hK K; refine Qx (fun K hK => ?_); refine Qq J J J (Qk igtr J J J J (Qv (hK _ _ (Qz ?_)))); clear hK K; refine Q1 J (fun h4 => ?_) (fun h4 => ?_)
    · refine Qy (Qx fun K hK => ?_); refine Qj J J J (Qv (hK _ _ (Qz (QU (Q5 (QV (QV (Q5 (QV ?_))))))))); clear hK K; refine QY [_] rfl (Qu J QQ) (by rw [hbad h4]; rfl) J
    · refine Q0 (Qz (Qx fun K hK => ?_)); refine Qq J J J (Qk (iadd (by omega) (by omega)) J J J J ?_); refine Qj J J J (Qv (hK _ _ (Q7 ?_))); clear hK K; refine Qb (i + 1) (by omega) ⟨by omega, hgood h4⟩ (by exact QJ J ⟨rfl, rfl, by simp only [Int.natCast_add]; rfl, trivial⟩)
  · have hi' : i = os.length := by omega
    refine Qm (Qz (Qy (Qx fun K hK => ?_))); refine Qj J J J (Qv (hK _ _ (Qz (QU ?_)))); clear hK K
    refine QY [_] rfl (Qu J QQ) (by
      unfold covQ
      rw [decide_eq_true hle, List.all_eq_true.mpr (fun j hj2 => by rw [decide_eq_false (hj j (by have := List.mem_range.mp hj2; omega))]; rfl)]; rfl) J
theorem gorBounds : InGo Tryz.prog 54 := InGo.of Tryz.func54 (by kernel_rfl) (by kernel_rfl)
theorem gorRefutes : InGo Tryz.prog 50 := InGo.of Tryz.func50 (by kernel_rfl) (by kernel_rfl)
theorem sgnF_q (q : Rat) : sgnF (ofQ q) = q.num.sign := by
  have e2 : (ofQ q).num = q.num.natAbs := rfl; have e1 : (ofQ q).neg = decide (q.num < 0) := rfl; unfold sgnF; rw [e1, e2]; generalize q.num = z; rcases Int.lt_trichotomy z 0 with h1 | h1 | h1
  · rw [if_neg (by omega), if_pos (decide_eq_true h1), Int.sign_eq_neg_one_of_neg h1]
  · subst h1; rfl
  · rw [if_neg (by omega), if_neg (by rw [decide_eq_true_eq]; omega), Int.sign_eq_one_of_pos h1]
set_option maxHeartbeats 4000000 in
theorem rRefutes_gen (n : Nat) (rs : List Rw) (ys : List Fr) (hv : validR n rs = true) (H : Mul n rs ys) :
    Ok Tryz.prog 50 [intC n, rowsC rs, fracsC ys] (boolC (decide ((bsQ rs ys).num < 0) && covQ (colsQ rs ys n) [])) := by
  have h1 := Ym n rs ys hv H; have h2 := (rcovers_q (colsQ rs ys n) [] (by rw [colsQ_len]; have := (X4 hv).2.1; omega) (by simp) H.cols (fun y h => by cases h)).weak (As' := [.ex (.slice none 0 0), _]) ⟨w_nil, Z4, trivial⟩; have h3 := Yn (ofQ (bsQ rs ys)); rw [sgnF_q] at h3; have hs : decide ((bsQ rs ys).num.sign < 0) = decide ((bsQ rs ys).num < 0) := decide_eq_decide.2 Int.sign_neg_iff; rw [← hs]; generalize (bsQ rs ys).num.sign = sg0 at *; generalize colsQ rs ys n = os at *
  refine Ok.enter Tryz.func50 J _ Tryz.ntmps50 J ?_
  intro S w; refine Qy (Qx fun K hK => ?_); refine Qj J J J (Qv (hK _ _ (Qz (Qy ?_)))); clear hK K; refine Qx (fun K hK => ?_); refine Qq J J J (Qq J J J (Qq J J J (QX gorCombine h1 J J J J (Qq J J J (QZ J J J J (QZ J J J J (QZ J J J J (Qa 0 J J zvFrac J J J (Qj J J J (Q8 3 J J J J J szFrac J J (Qj J J J (Qv (hK _ _ (Qz (Qy ?_))))))))))))))); clear hK K; refine Qx (fun K hK => ?_); refine Qq J J J (Qk ieql J J J J (Qq J J J (Qq J J J (QX gorcovers h2 J J J J (Q6 J J J J (Qq J J J (Xe 24 J (fun h => ?_) (fun h => ?_))))))))
  · refine Qd (n := 3) J J J J J Qg J (QX goSign h3 J J J J (Qk ilss J J J J (Q6 J J J J (Qj J J J (Qv (hK _ _ (Qz (QU ?_)))))))); clear hK K; refine QY [_] rfl (Qu J QQ) (by rw [h, Bool.and_true]; rfl) J
  · refine Qw J J J (Qw J J J (Qw J J J (Q2 J J J J (Qj J J J (Qv (hK _ _ (Qz (QU ?_)))))))); clear hK K; refine QY [_] rfl (Qu J QQ) (by rw [h, Bool.and_false]; rfl) J
theorem ofQ_pos (q : Rat) : (!(ofQ q).neg && decide ((0 : Int) < ((limbs (ofQ q).num).length : Int))) = decide (0 < q.num) := by
  have h := limbs_len_pos (n := (ofQ q).num); have e1 : (ofQ q).neg = decide (q.num < 0) := rfl; have e2 : (ofQ q).num = q.num.natAbs := rfl; rw [e1]; rw [e2] at h ⊢; generalize q.num = z at *; rcases Int.lt_trichotomy z 0 with h1 | h1 | h1
  · rw [decide_eq_true h1, decide_eq_false (show ¬ 0 < z by omega)]; rfl
  · subst h1; decide +kernel
  · rw [decide_eq_false (show ¬ z < 0 by omega), decide_eq_true (show 0 < z by omega), decide_eq_true (show (0 : Int) < ((limbs z.natAbs).length : Int) by omega)]; rfl
def growB (rs : List Rw) (c : List Int) (ray : List Fr) : Bool := rs.all (fun r => !decide (0 < (vsum r.cs ray).num)) && decide (0 < (vsum c ray).num)
set_option maxHeartbeats 8000000 in
theorem grows_gen (n : Nat) (rs : List Rw) (c : List Int) (ray : List Fr) (hl : ray.length = n) (hn : n ≤ 64) (hrl : rs.length ≤ 64) (hx : ∀ f ∈ ray, VF f) (hneg : ∀ f ∈ ray, f.neg = false) (hR : ∀ r ∈ rs, VFit r.cs ray) (hC : VFit c ray) :
    Ok Tryz.prog 109 [intC n, rowsC rs, intsC c, fracsC ray] (boolC (growB rs c ray)) := by
  have hCF := Zo ray _ (fun f => f.neg) gogrows1 (fun f hf => grows1_V f (hx f hf)) (by omega); rw [show ray.any (fun f => f.neg) = false from List.any_eq_false.2 fun f hf => by rw [hneg f hf]; decide] at hCF; have hVc := Value_gen c ray hC; have hpc := ofQ_pos (vsum c ray)
  refine Ok.enter Tryz.func109 J _ Tryz.ntmps109 J ?_
  intro S w; refine Qy (Qx fun K hK => ?_); refine Qj J J J (Qv (hK _ _ (Qz (Qy (Qy ?_))))); clear hK K; refine Qx (fun K hK => ?_); refine Qq J J J (Q3 J J sFracs.und (List.length_map ..) J (Qq J J J (Qk ineq J J J J (Qq J J J ?_)))); rw [decide_eq_false (show ¬ ((ray.length : Int) ≠ (n : Int)) by omega)]; refine Qq J J J (QX Xg hCF J J J J (Q2 J J J J (Qv (hK _ _ (Qz (Qr J (Q0 (Qz (Qy (Qy ?_)))))))))); clear hK K; refine Qx (fun K hK => ?_); refine Qq J J J (Q3 J J sRows.und (List.length_map ..) J (Qq J J J (Qv (hK _ _ (Qz (Q4 ?_)))))); clear hK K
  refine Qn (α := Nat) (fun i => i ≤ rs.length ∧ ∀ j, j < i → ¬ 0 < (vsum (rs.getD j rw0).cs ray).num)
    (fun i => [(2, .ct (intsC c)), (3, .ct (fracsC ray)), (23, .ct (rowsC rs)), (24, .ct (intC rs.length)), (25, .ct (intC i))]) (fun _ => []) (fun i => rs.length - i) 0 ⟨Nat.zero_le _, fun j h => absurd h (Nat.not_lt_zero j)⟩ (by exact QJ J ⟨rfl, rfl, rfl, rfl, rfl, trivial⟩) ?_
  intro i ⟨hi, hj⟩
  (try dsimp only at hi hj ⊢)
  refine Qy (Qx fun K hK => ?_); refine Qk ilss J J J J (Qv (hK _ _ (Qz (Qy ?_)))); clear hK K; refine Q1 J (fun h => ?_) (fun h => ?_)
  · have e2 : (i : Int).toNat = i := Int.toNat_natCast i
    have hlt : i < rs.length := by omega
    have hmem := Xj (z := rw0) hlt; have hVal := Value_gen (rs.getD i rw0).cs ray (hR _ hmem); have hp := ofQ_pos (vsum (rs.getD i rw0).cs ray)
    have hbad : 0 < (vsum (rs.getD i rw0).cs ray).num → growB rs c ray = false := fun hgt => by
      unfold growB; rw [List.all_eq_false.mpr ⟨_, hmem, by rw [decide_eq_true hgt]; decide⟩]; rfl
    have hgood : ¬ 0 < (vsum (rs.getD i rw0).cs ray).num → ∀ j, j < i + 1 → ¬ 0 < (vsum (rs.getD j rw0).cs ray).num := fun hng j hj' => by
      rcases Nat.lt_or_ge j i with h3 | h3
      · exact hj j h3
      · have : j = i := by omega
        rw [this]; exact hng
    refine Q0 (Qz (Qy (Q4 (Qy (Qx fun K hK => ?_)))))
    refine Qc J J J sRows (by omega) (ZQ (by omega) (by omega)) J ?_
    refine Xk (n := 2) J J J lRow J J (Qa 0 J J zvRow J J J (Q8 2 J J J J J szRow J J (Qv (hK _ _ (Qz (Qy ?_)))))); clear hK K; refine Qx (fun K hK => ?_); refine QW J J J fR0 J (QK J J J J J lInts J (Qq J J J ?_)); rw [e2]; generalize rs.getD i rw0 = r0 at hVal hp hbad hgood ⊢; skip
    refine QX goValue hVal J J J J ?_
    generalize vsum r0.cs ray = q at hp hbad hgood ⊢; refine Qq J J J (QZ J J J J (QZ J J J J (Qa 1 J J zvFrac J J J (Q8 3 J J J J J szFrac J J (Qj J J J (Qv (hK _ _ (Qz (Qy ?_))))))))); clear hK K; refine Qx (fun K hK => ?_); refine Qq J J J (Qk ineq J J J J (Qq J J J (QW J J J fF0 J (QK J J J J J lBool J (Qe J J J (Qq J J J (Xe 42 J (fun h2 => ?_) (fun h2 => ?_))))))))
    · rw [h2, Bool.true_and] at hp; refine QW J J J fF1 J (QK J J J J J lNat J (Q3 J J sNat.und (List.length_map ..) J (Qk igtr J J J J (Q6 J J J J (Q2 J J J J (Qv (hK _ _ (Qz ?_)))))))); clear hK K; refine Q1 J (fun h3 => ?_) (fun h3 => ?_)
      · refine Qy (Qx fun K hK => ?_); refine Qj J J J (Qv (hK _ _ (Qz (QU (Q5 (QV (QV (Q5 (QV ?_))))))))); clear hK K; refine QY [_] rfl (Qu J QQ) (by rw [hbad (of_decide_eq_true (hp.symm.trans (decide_eq_true h3)))]; rfl) J
      · refine Q0 (Qz (Qx fun K hK => ?_))
        refine Qk (iadd (by omega) (by omega)) J J J J ?_
        refine Qq J J J (Qv (hK _ _ (Q7 ?_))); clear hK K; refine Xy 1 (Xy 0 ?_); refine Qb (i + 1) (by omega) ⟨by omega, hgood (of_decide_eq_false (hp.symm.trans (decide_eq_false h3)))⟩ (by exact QJ J ⟨rfl, rfl, rfl, rfl, by simp only [Int.natCast_add]; rfl, trivial⟩)
    · rw [h2, Bool.false_and] at hp; refine Qw J J J (Qw J J J (Qw J J J (Qw J J J (Q2 J J J J (Q2 J J J J (Qv (hK _ _ (Qz (Qr J (Q0 (Qz ?_))))))))))); clear hK K; refine Qx (fun K hK => ?_)
      refine Qk (iadd (by omega) (by omega)) J J J J ?_
      refine Qq J J J (Qv (hK _ _ (Q7 ?_))); clear hK K; refine Xy 1 (Xy 0 ?_); refine Qb (i + 1) (by omega) ⟨by omega, hgood (of_decide_eq_false hp.symm)⟩ (by exact QJ J ⟨rfl, rfl, rfl, rfl, by simp only [Int.natCast_add]; rfl, trivial⟩)
  · have hi' : i = rs.length := by omega
    have hall : growB rs c ray = decide (0 < (vsum c ray).num) := by
      unfold growB; rw [List.all_eq_true.mpr (fun r hr => ?_)]
      · rfl
      · obtain ⟨k, hk, rfl⟩ := List.getElem_of_mem hr; have := hj k (by omega); rw [show rs.getD k rw0 = rs[k] by simp [List.getD_eq_getElem?_getD, List.getElem?_eq_getElem hk]] at this; rw [decide_eq_false this]; rfl
    rw [hall, ← hpc]; refine Qm (Qz (Qy (Qx fun K hK => ?_))); refine Qq J J J (Qq J J J (QX goValue hVc J J J J (Qq J J J (QZ J J J J (QZ J J J J (Qa 0 J J zvFrac J J J (Q8 3 J J J J J szFrac J J (Qj J J J (Qv (hK _ _ (Qz (Qy ?_)))))))))))); clear hK K; refine Qx (fun K hK => ?_); refine Qq J J J (Qk ieql J J J J (Qq J J J (QW J J J fF0 J (QK J J J J J lBool J (Qe J J J (Q6 J J J J (Qq J J J (Xe 63 J (fun h2 => ?_) (fun h2 => ?_)))))))))
    · refine QW J J J fF1 J (QK J J J J J lNat J (Q3 J J sNat.und (List.length_map ..) J (Qk igtr J J J J (Q6 J J J J (Qj J J J (Qv (hK _ _ (Qz (QU ?_))))))))); clear hK K; refine QY [_] rfl (Qu J QQ) (by rw [h2]; rfl) J
    · refine Qw J J J (Qw J J J (Qw J J J (Qw J J J (Q2 J J J J (Qj J J J (Qv (hK _ _ (Qz (QU ?_))))))))); clear hK K; refine QY [_] rfl (Qu J QQ) (by rw [h2]; rfl) J
theorem gogrows : InGo Tryz.prog 109 := InGo.of Tryz.func109 (by kernel_rfl) (by kernel_rfl)
end Go.Proofs.YtdhmbgogmoaofaaGreat
namespace Go.Proofs.YtdhmbgogmoaofaaGreat
open Go.Own Go.Limbs Go.Det
theorem ptl_mem {n : Nat} {X : Nat → Int} {D : Int} {f : Fr} (h : f ∈ ptl n X D) : ∃ k, k < n ∧ f = ofQ (shq (X k) D) := by
  obtain ⟨k, hk, rfl⟩ := List.mem_map.1 h; exact ⟨k, List.mem_range.1 hk, rfl⟩
theorem Kt9 {m : Nat} (h : m ≤ 6) : Kt m < 1073741824 ^ 9 := by
  have : m = 0 ∨ m = 1 ∨ m = 2 ∨ m = 3 ∨ m = 4 ∨ m = 5 ∨ m = 6 := by omega
  rcases this with rfl | rfl | rfl | rfl | rfl | rfl | rfl <;> decide +kernel
theorem F9.shq {a D : Int} {m : Nat} (hm : m ≤ 6) (hD : 0 < D) (h1 : D.natAbs ≤ Kt m) (h2 : a.natAbs ≤ Kt m) : F9 (ofQ (shq a D)) := by
  obtain ⟨l1, l2⟩ := mk_le a D.natAbs (by omega); have := Kt9 hm
  exact ⟨Nat.lt_of_le_of_lt l1 (by omega), Nat.lt_of_le_of_lt l2 (by omega), Xp _, fun h => by
    have : (Go.Proofs.YtdhmbgogmoaofaaGreat.shq a D).num < 0 := of_decide_eq_true h; show (Go.Proofs.YtdhmbgogmoaofaaGreat.shq a D).num.natAbs ≠ 0
    omega⟩
section
variable {n : Nat} {rs : List Rw} {D : Int} {X : Nat → Int}
theorem ptl_F9 {k m : Nat} (hm : m ≤ 6) (hD : 0 < D) (b1 : D.natAbs ≤ Kt m) (b2 : ∀ v, v < k → (X v).natAbs ≤ Kt m) : ∀ f ∈ ptl k X D, F9 f := fun f hf => by
  obtain ⟨v, hv, rfl⟩ := ptl_mem hf
  exact F9.shq hm hD b1 (b2 v hv)
end
end Go.Proofs.YtdhmbgogmoaofaaGreat
namespace Go.Proofs.YtdhmbgogmoaofaaGreat
open Go.Own Go.Limbs
attribute [local irreducible] St Ops Go.Own.Fin Ok
theorem goFCheck1 : InGo Tryz.prog 107 := InGo.of Tryz.func107 (by kernel_rfl) (by kernel_rfl)
theorem FCheck1_ok (x : Int) : Ok Tryz.prog 107 [intC x] (boolC (badC x)) := by
  refine Ok.enter Tryz.func107 J _ Tryz.ntmps107 J ?_
  intro S w; refine Qy (Qx fun K hK => ?_); refine Qj J J J (Qv (hK _ _ (Qz (Qy ?_)))); clear hK K; refine Qx (fun K hK => ?_); refine Qq J J J (Qk ilss J J J J (Qq J J J (Qi 5 J (fun h => ?_) (fun h => ?_))))
  · refine Qw J J J (Qw J J J (Q6 J J J J (Qj J J J (Qv (hK _ _ (Qz (QU ?_))))))); clear hK K; refine QY [_] rfl (Qu J QQ) (by unfold badC; rw [decide_eq_true h]; rfl) J
  · refine Qq J J J (Qk igtr J J J J (Q2 J J J J (Qj J J J (Qv (hK _ _ (Qz (QU ?_))))))); clear hK K; refine QY [_] rfl (Qu J QQ) (by unfold badC; rw [decide_eq_false h]; rfl) J
theorem lFracs : Ld1 Tryz.prog 25 := Ld1.of _ Tryz.underlying25 rfl
theorem goFCheck : InGo Tryz.prog 44 := InGo.of Tryz.func44 (by kernel_rfl) (by kernel_rfl)
section
variable (N : Nat) (rs : List Rw) (c : List Int) (pt ray du : List Fr) (hv : validR N rs = true) (hc : okCoeffs N c = true)
include hv hc
theorem FCheck_pre : Ok Tryz.prog 29 [intC N, rowsC rs] (boolC true) ∧ c.length ≤ N ∧ Ok Tryz.prog 106 [intsC c, (.ex (.func (.func 107) #[] #[]))] (boolC false) := by
  obtain ⟨v1, v2, v3, v4⟩ := X4 hv; have h1 := Zh N rs (by omega) (fun r hr => by have := (v4 r hr).1; omega); rw [hv] at h1; unfold okCoeffs at hc; simp only [Bool.and_eq_true, decide_eq_true_eq, Bool.not_eq_true'] at hc; have h2 := Yd c _ badC goFCheck1 (fun x _ => FCheck1_ok x) (by omega); rw [hc.2] at h2; exact ⟨h1, by omega, h2⟩
end
theorem gorzero : InGo Tryz.prog 76 := InGo.of Tryz.func76 (by kernel_rfl) (by kernel_rfl)
theorem gorgrows : InGo Tryz.prog 77 := InGo.of Tryz.func77 (by kernel_rfl) (by kernel_rfl)
set_option maxHeartbeats 8000000 in
theorem rgrows_gen (n : Nat) (rs : List Rw) (c : List Int) (ray : List Fr) (hl : ray.length = n) (hn : n ≤ 64) (hrl : rs.length ≤ 64) (hx : ∀ f ∈ ray, VF f) (hneg : ∀ f ∈ ray, f.neg = false) (hR : ∀ r ∈ rs, VFit r.cs ray) (hC : VFit c ray) :
    Ok Tryz.prog 77 [intC n, rowsC rs, intsC c, fracsC ray] (boolC (growB rs c ray)) := by
  have hP := Point_ok n ray (by omega) hx; rw [decide_eq_true (show (ray.length : Int) = (n : Int) by omega), show ray.any (fun f => f.neg) = false from List.any_eq_false.2 fun f hf => by rw [hneg f hf]; decide] at hP; have hP : Ok Tryz.prog 66 [intC n, fracsC ray] (boolC true) := hP; have hVc := rValue_gen c ray hC; have hSc := Yn (ofQ (vsum c ray)); rw [sgnF_q] at hSc
  refine Ok.enter Tryz.func77 J _ Tryz.ntmps77 J ?_
  intro S w; refine Qy (Qx fun K hK => ?_); refine Qj J J J (Qv (hK _ _ (Qz (Qy (Qy ?_))))); clear hK K; refine Qx (fun K hK => ?_); refine Qq J J J (Qq J J J (QX goPoint hP J J J J (Qe J J J (Qv (hK _ _ (Qz (Qr J (Q0 (Qz (Qy (Qy ?_))))))))))); clear hK K; refine Qx (fun K hK => ?_); refine Qj J J J (Qv (hK _ _ (Qz (Q4 ?_)))); clear hK K
  refine Qn (α := Nat) (fun i => i ≤ rs.length ∧ ∀ j, j < i → ¬ 0 < (vsum (rs.getD j rw0).cs ray).num)
    (fun i => [(1, .ct (rowsC rs)), (2, .ct (intsC c)), (3, .ct (fracsC ray)), (9, .ct (intC i))]) (fun _ => []) (fun i => rs.length - i) 0 ⟨Nat.zero_le _, fun j h => absurd h (Nat.not_lt_zero j)⟩ (by exact QJ J ⟨rfl, rfl, rfl, rfl, trivial⟩) ?_
  intro i ⟨hi, hj⟩
  (try dsimp only at hi hj ⊢)
  refine Qy (Qy (Qx fun K hK => ?_)); refine Qq J J J (Qq J J J (Q3 J J sRows.und (List.length_map ..) J (Qk ilss J J J J (Qv (hK _ _ (Qz ?_)))))); clear hK K; refine Q1 J (fun h => ?_) (fun h => ?_)
  · have e2 : (i : Int).toNat = i := Int.toNat_natCast i
    have hlt : i < rs.length := by omega
    have hmem := Xj (z := rw0) hlt; have hVal := rValue_gen (rs.getD i rw0).cs ray (hR _ hmem); have hS := Yn (ofQ (vsum (rs.getD i rw0).cs ray)); rw [sgnF_q] at hS
    have hbad : 0 < (vsum (rs.getD i rw0).cs ray).num.sign → growB rs c ray = false := fun hgt => by
      unfold growB; rw [List.all_eq_false.mpr ⟨_, hmem, by rw [decide_eq_true (Int.sign_pos_iff.1 hgt)]; decide⟩]; rfl
    have hgood : ¬ 0 < (vsum (rs.getD i rw0).cs ray).num.sign → ∀ j, j < i + 1 → ¬ 0 < (vsum (rs.getD j rw0).cs ray).num := fun hng j hj' => by
      rcases Nat.lt_or_ge j i with h3 | h3
      · exact hj j h3
      · have : j = i := by omega
        rw [this]; exact fun h => hng (Int.sign_pos_iff.2 h)
    refine Q0 (Qz (Qy (Q4 (Qy (Qx fun K hK => ?_))))); refine Qq J J J (Qq J J J (Qc J J J sRows (by omega) (ZQ (by omega) (by omega)) J ?_)); refine ZJ J J fR0 J (Ql J J J lInts J (Qq J J J ?_)); rw [e2]; generalize rs.getD i rw0 = r0 at hVal hS hbad hgood ⊢; skip; refine QX gorValue hVal J J J J (Qq J J J (QZ J J J J (QZ J J J J (Qa 0 J J zvFrac J J J (Q8 3 J J J J J szFrac J J (Qj J J J (Qv (hK _ _ (Qz (Qy ?_)))))))))); clear hK K; refine Qx (fun K hK => ?_); refine Qq J J J (Qk ineq J J J J (Qq J J J (Qd (n := 3) J J J J J Qg J (QX goSign hS J J J J (Qk igtr J J J J (Q2 J J J J (Qv (hK _ _ (Qz ?_))))))))); clear hK K; refine Q1 J (fun h3 => ?_) (fun h3 => ?_)
    · refine Qy (Qx fun K hK => ?_); refine Qj J J J (Qv (hK _ _ (Qz (QU (Q5 (QV (QV (Q5 (QV ?_))))))))); clear hK K; refine QY [_] rfl (Qu J QQ) (by rw [hbad h3]; rfl) J
    · refine Q0 (Qz (Qx fun K hK => ?_)); refine Qq J J J (Qk (iadd (by omega) (by omega)) J J J J ?_); refine Qj J J J (Qv (hK _ _ (Q7 ?_))); clear hK K; refine Xy 0 (Qb (i + 1) (by omega) ⟨by omega, hgood h3⟩ (by exact QJ J ⟨rfl, rfl, rfl, by simp only [Int.natCast_add]; rfl, trivial⟩))
  · have hi' : i = rs.length := by omega
    have hall : growB rs c ray = decide (0 < (vsum c ray).num.sign) := by
      unfold growB; rw [List.all_eq_true.mpr (fun r hr => ?_), decide_eq_decide.2 (Int.sign_pos_iff (x := (vsum c ray).num))]
      · rfl
      · obtain ⟨k, hk, rfl⟩ := List.getElem_of_mem hr; have := hj k (by omega); rw [show rs.getD k rw0 = rs[k] by simp [List.getD_eq_getElem?_getD, List.getElem?_eq_getElem hk]] at this; rw [decide_eq_false this]; rfl
    rw [hall]; refine Qm (Qz (Qy (Qx fun K hK => ?_))); refine Qq J J J (Qq J J J (QX gorValue hVc J J J J (Qq J J J (QZ J J J J (QZ J J J J (Qa 0 J J zvFrac J J J (Q8 3 J J J J J szFrac J J (Qj J J J (Qv (hK _ _ (Qz (Qy ?_)))))))))))); clear hK K; refine Qx (fun K hK => ?_); refine Qq J J J (Qk ieql J J J J (Qq J J J (Qd (n := 3) J J J J J Qg J (QX goSign hSc J J J J (Qk igtr J J J J (Q6 J J J J (Qj J J J (Qv (hK _ _ (Qz (QU ?_))))))))))); clear hK K; refine QY [_] rfl (Qu J QQ) J J
theorem gorCheck : InGo Tryz.prog 23 := InGo.of Tryz.func23 (by kernel_rfl) (by kernel_rfl)
section
variable (N : Nat) (rs : List Rw) (c : List Int) (pt ray du : List Fr) (hv : validR N rs = true) (hc : okCoeffs N c = true)
include hv hc
theorem rCheck_pre : Ok Tryz.prog 30 [intC N, rowsC rs] (boolC true) ∧ Ok Tryz.prog 75 [intC N, intsC c] (boolC true) := by
  obtain ⟨v1, v2, v3, v4⟩ := X4 hv; have h1 := Zc N rs (by omega) (fun r hr => by have := (v4 r hr).1; omega); rw [hv] at h1; have hc' := hc; unfold okCoeffs at hc'; simp only [Bool.and_eq_true, decide_eq_true_eq, Bool.not_eq_true'] at hc'; have h2 := rValidGoal_ok N c (by omega); rw [hc] at h2; exact ⟨h1, h2⟩
end
def gdf (f : Rf) : Bool := fvalidL f.neg f.xs f.ys
def badm (f : Rf) : Bool := !gdf f || f.neg
structure Sm (f : Rf) : Prop where
  x : f.xs.length ≤ 9
  y : f.ys.length ≤ 9
def rfOf (g : Fr) : Rf := ⟨g.neg, limbs g.num, limbs g.den⟩
theorem rfs_of (gs : List Fr) : rfsC (gs.map rfOf) = fracsC gs := by
  show CT.fr (sliceT 3 ((gs.map rfOf).map rfCs)) = CT.fr (sliceT 3 (gs.map frCs)); rw [List.map_map]; rfl
theorem F9.gdf {g : Fr} (h : F9 g) : gdf (rfOf g) = true := h.vf.list
theorem F9.sm {g : Fr} (h : F9 g) : Sm (rfOf g) := ⟨Qf h.num, Qf h.den⟩
theorem gdf_fr {f : Rf} (hs : Sm f) (h : gdf f = true) : ∃ g : Fr, F9 g ∧ f = rfOf g := by
  obtain ⟨neg, xs, ys⟩ := f; unfold Go.Proofs.YtdhmbgogmoaofaaGreat.gdf fvalidL at h; simp only [Bool.and_eq_true, decide_eq_true_eq, Bool.not_eq_true'] at h; obtain ⟨⟨⟨h3, _⟩, h4, _⟩, h5⟩ := h.1; have h6 := h.2; obtain ⟨a, rfl⟩ := validL_spec h3; obtain ⟨b, rfl⟩ := validL_spec h4; refine ⟨⟨neg, a, b⟩, ⟨XU hs.x, XU hs.y, ?_, ?_⟩, rfl⟩
  · dsimp only; rcases Nat.eq_zero_or_pos b with h | h
    · subst h; exact absurd h5 (by decide +kernel)
    · exact h
  · intro hn h0; dsimp only at hn h0; subst hn h0; rw [limbs_zero] at h6; simp at h6
theorem gdf_all : ∀ {z : List Rf}, (∀ f ∈ z, Sm f) → z.all gdf = true → ∃ gs : List Fr, z = gs.map rfOf ∧ ∀ g ∈ gs, F9 g
  | [], _, _ => ⟨[], rfl, fun g h => nomatch h⟩
  | f :: z, hs, h => by
    simp only [List.all_cons, Bool.and_eq_true] at h
    obtain ⟨g, hg, rfl⟩ := gdf_fr (hs f (List.mem_cons_self ..)) h.1
    obtain ⟨gs, rfl, hgs⟩ := gdf_all (z := z) (fun y hy => hs y (List.mem_cons_of_mem _ hy)) h.2
    refine ⟨g :: gs, rfl, fun y hy => ?_⟩
    rcases List.mem_cons.1 hy with rfl | hy
    · exact hg
    · exact hgs y hy
theorem badm_all {z : List Rf} (hs : ∀ f ∈ z, Sm f) (h : z.any badm = false) : ∃ gs : List Fr, z = gs.map rfOf ∧ (∀ g ∈ gs, F9 g) ∧ ∀ g ∈ gs, g.neg = false := by
  rw [List.any_eq_false] at h
  have h1 : z.all gdf = true := List.all_eq_true.2 fun f hf => by
    have := h f hf; unfold badm at this
    cases hg : gdf f with
    | true => rfl
    | false => rw [hg] at this; exact absurd J this
  obtain ⟨gs, rfl, hgs⟩ := gdf_all hs h1; refine ⟨gs, rfl, hgs, fun g hg => ?_⟩; have := h (rfOf g) (List.mem_map_of_mem hg); unfold badm at this; rw [(hgs g hg).gdf] at this
  cases hn : g.neg with
  | false => rfl
  | true => exact absurd (show (!true || g.neg) = true by rw [hn]; rfl) this
theorem multipliers1_raw (f : Rf) (h : Sm f) : Ok Tryz.prog 145 [.fr (aggT (rfCs f))] (boolC (badm f)) := by
  have hV := Zl f.neg f.xs f.ys (by have := h.x; omega) (by have := h.y; omega); have e0 : badm f = (!fvalidL f.neg f.xs f.ys || f.neg) := rfl; generalize fvalidL f.neg f.xs f.ys = b at hV e0
  refine Ok.enter Tryz.func145 J _ Tryz.ntmps145 J ?_
  intro S w; refine Qy (Qx fun K hK => ?_); refine Qh 0 J J J J J J J (Qj J J J (Qv (hK _ _ (Qz (Qy ?_))))); clear hK K; refine Qx (fun K hK => ?_); refine Qd (n := 3) J J J J J Qg J (QX Yx hV J J J J ?_)
  cases b with
  | true =>
    refine Qe J J J (Qq J J J (QW J J J fF0 J (QK J J J J J lBool J (Q2 J J J J (Qj J J J (Qv (hK _ _ (Qz (QU ?_))))))))); clear hK K; refine QY [_] rfl (Qu J QQ) (by rw [e0]; rfl) J
  | false =>
    refine Qe J J J (Qq J J J (Qw J J J (Qw J J J (Q6 J J J J (Qj J J J (Qv (hK _ _ (Qz (QU ?_))))))))); clear hK K; refine QY [_] rfl (Qu J QQ) (by rw [e0]; rfl) J
theorem grows1_raw (f : Rf) (h : Sm f) : Ok Tryz.prog 149 [.fr (aggT (rfCs f))] (boolC (badm f)) := by
  have hV := Zl f.neg f.xs f.ys (by have := h.x; omega) (by have := h.y; omega); have e0 : badm f = (!fvalidL f.neg f.xs f.ys || f.neg) := rfl; generalize fvalidL f.neg f.xs f.ys = b at hV e0
  refine Ok.enter Tryz.func149 J _ Tryz.ntmps149 J ?_
  intro S w; refine Qy (Qx fun K hK => ?_); refine Qh 0 J J J J J J J (Qj J J J (Qv (hK _ _ (Qz (Qy ?_))))); clear hK K; refine Qx (fun K hK => ?_); refine Qd (n := 3) J J J J J Qg J (QX Yx hV J J J J ?_)
  cases b with
  | true =>
    refine Qe J J J (Qq J J J (QW J J J fF0 J (QK J J J J J lBool J (Q2 J J J J (Qj J J J (Qv (hK _ _ (Qz (QU ?_))))))))); clear hK K; refine QY [_] rfl (Qu J QQ) (by rw [e0]; rfl) J
  | false =>
    refine Qe J J J (Qq J J J (Qw J J J (Qw J J J (Q6 J J J J (Qj J J J (Qv (hK _ _ (Qz (QU ?_))))))))); clear hK K; refine QY [_] rfl (Qu J QQ) (by rw [e0]; rfl) J
theorem Satisfies1_raw (f : Rf) (h : Sm f) : Ok Tryz.prog 63 [.fr (aggT (rfCs f))] (boolC (badm f)) := by
  have hV := Zl f.neg f.xs f.ys (by have := h.x; omega) (by have := h.y; omega); have e0 : badm f = (!fvalidL f.neg f.xs f.ys || f.neg) := rfl; generalize fvalidL f.neg f.xs f.ys = b at hV e0
  refine Ok.enter Tryz.func63 J _ Tryz.ntmps63 J ?_
  intro S w; refine Qy (Qx fun K hK => ?_); refine Qh 0 J J J J J J J (Qj J J J (Qv (hK _ _ (Qz (Qy ?_))))); clear hK K; refine Qx (fun K hK => ?_); refine Qd (n := 3) J J J J J Qg J (QX Yx hV J J J J ?_)
  cases b with
  | true =>
    refine Qe J J J (Qq J J J (QW J J J fF0 J (QK J J J J J lBool J (Q2 J J J J (Qj J J J (Qv (hK _ _ (Qz (QU ?_))))))))); clear hK K; refine QY [_] rfl (Qu J QQ) (by rw [e0]; rfl) J
  | false =>
    refine Qe J J J (Qq J J J (Qw J J J (Qw J J J (Q6 J J J J (Qj J J J (Qv (hK _ _ (Qz (QU ?_))))))))); clear hK K; refine QY [_] rfl (Qu J QQ) (by rw [e0]; rfl) J
set_option maxHeartbeats 2000000 in
theorem IndexFunc_rfs (xs : List Rf) (f : FuncId) (p : Rf → Bool) (hgo : InGo Tryz.prog f) (hf : ∀ x ∈ xs, Ok Tryz.prog f [.fr (aggT (rfCs x))] (boolC (p x))) (hl : xs.length < 4611686018427387904) : Ok Tryz.prog 118 [rfsC xs, (.ex (.func (.func f) #[] #[]))] (intC (idxI p xs)) := by
  refine Ok.enter Tryz.func118 J _ Tryz.ntmps118 J ?_
  intro S w; refine Qy (Qx fun K hK => ?_); refine Qj J J J (Qv (hK _ _ (Qz (Qy (Qy ?_))))); clear hK K; refine Qx (fun K hK => ?_); refine Qq J J J (Q3 J J sFracs.und (List.length_map ..) J (Qq J J J (Qv (hK _ _ (Qz (Q4 ?_)))))); clear hK K
  refine Qn (α := Nat) (fun i => i ≤ xs.length ∧ ∀ j, j < i → p (xs.getD j rf0) = false)
    (fun i => [(0, .ct (rfsC xs)), (1, .ct (.ex (.func (.func f) #[] #[]))), (7, .ct (intC xs.length)), (8, .ct (intC i))]) (fun _ => []) (fun i => xs.length - i) 0 ⟨Nat.zero_le _, fun j h => absurd h (Nat.not_lt_zero j)⟩ (by exact QJ J ⟨rfl, rfl, rfl, rfl, trivial⟩) ?_
  intro i ⟨hi, hv⟩; dsimp only; refine Qy (Qx fun K hK => ?_); refine Qk ilss J J J J (Qv (hK _ _ (Qz (Qy ?_)))); clear hK K; refine Q1 J (fun h => ?_) (fun h => ?_)
  · have e2 : (i : Int).toNat = i := Int.toNat_natCast i; refine Q0 (Qz (Qy (Q4 (Qy (Qx fun K hK => ?_))))); refine Qq J J J (Qj J J J (Qv (hK _ _ (Qz (Qy ?_))))); clear hK K; refine Qx (fun K hK => ?_); refine Qq J J J (Qq J J J (Qq J J J (Qc J J J sFracs (by omega) (rfs_at (by omega) (by omega)) J ?_))); rw [e2]; refine Xk (n := 3) J J J Qg J J (Ops.callF hgo J (hf _ (Xj (by omega))) J J J J ?_); refine Qv (hK _ _ (Qz ?_)); clear hK K; refine Zz J (fun h2 => ?_) (fun h2 => ?_)
    · refine Qy (Qx fun K hK => ?_); refine Qq J J J (Qj J J J (Qv (hK _ _ (Qz (QU (Q5 (QV (QV (Q5 (QV ?_)))))))))); clear hK K; refine QY [_] rfl (Qu J QQ) (by rw [idxI_hit (by omega) h2 hv]; rfl) J
    · refine Q0 (Qz (Qx fun K hK => ?_))
      refine Qk (iadd (by omega) (by omega)) J J J J ?_
      refine Qq J J J (Qv (hK _ _ (Q7 ?_))); clear hK K; refine Qb (i + 1) (by omega) ⟨by omega, ?_⟩ (by exact QJ J ⟨rfl, rfl, rfl, by simp only [Int.natCast_add]; rfl, trivial⟩); intro j hj; rcases Nat.lt_or_ge j i with h3 | h3
      · exact hv j h3
      · have : j = i := by omega
        rw [this]; exact h2
  · have hi' : i = xs.length := by omega
    refine Qm (Qz (Qy (Qx fun K hK => ?_))); refine Qj J J J (Qv (hK _ _ (Qz (QU ?_)))); clear hK K; refine QY [_] rfl (Qu J QQ) (by rw [idxI_miss (fun j hj => hv j (by omega))]; rfl) J
theorem ContainsFunc_rfs (xs : List Rf) (f : FuncId) (p : Rf → Bool) (hgo : InGo Tryz.prog f) (hf : ∀ x ∈ xs, Ok Tryz.prog f [.fr (aggT (rfCs x))] (boolC (p x))) (hl : xs.length < 4611686018427387904) : Ok Tryz.prog 62 [rfsC xs, (.ex (.func (.func f) #[] #[]))] (boolC (xs.any p)) := by
  refine Ok.enter Tryz.func62 J _ Tryz.ntmps62 J ?_
  intro S w; refine Qy (Qx fun K hK => ?_); refine Qj J J J (Qv (hK _ _ (Qz (Qy ?_)))); clear hK K; refine Qx (fun K hK => ?_); refine Qq J J J (Qq J J J (QX goIndexFunc_fracs (IndexFunc_rfs xs f p hgo hf hl) J J J J (Qk igeq J J J J (Qj J J J (Qv (hK _ _ (Qz (QU ?_)))))))); clear hK K; refine QY [_] rfl (Qu J QQ) (by rw [← idxI_any]; rfl) J
theorem multipliers_raw (rs : List Rw) (z : List Rf) (hrl : rs.length < 4611686018427387904) (hzl : z.length ≤ 1000) (hs : ∀ f ∈ z, Sm f) : Ok Tryz.prog 96 [rowsC rs, rfsC z] (boolC (decide (z.length = rs.length) && !z.any badm)) := by
  have hC := ContainsFunc_rfs z _ badm gomultipliers1 (fun f hf => multipliers1_raw f (hs f hf)) (by omega); generalize z.any badm = b at hC ⊢
  refine Ok.enter Tryz.func96 J _ Tryz.ntmps96 J ?_
  intro S w; refine Qy (Qx fun K hK => ?_); refine Qj J J J (Qv (hK _ _ (Qz (Qy ?_)))); clear hK K; refine Qx (fun K hK => ?_); refine Qq J J J (Q3 J J sFracs.und (List.length_map ..) J (Qq J J J (Q3 J J sRows.und (List.length_map ..) J (Qk ieql J J J J (Qq J J J ?_))))); by_cases hl : z.length = rs.length
  · rw [decide_eq_true (show (z.length : Int) = rs.length by omega)]; refine Qq J J J (QX Xg hC J J J J (Qe J J J (Q6 J J J J (Qj J J J (Qv (hK _ _ (Qz (QU ?_)))))))); clear hK K; refine QY [_] rfl (Qu J QQ) (by rw [decide_eq_true hl]; rfl) J
  · rw [decide_eq_false (show ¬ (z.length : Int) = rs.length by omega)]; refine Qw J J J (Qw J J J (Qw J J J (Q2 J J J J (Qj J J J (Qv (hK _ _ (Qz (QU ?_)))))))); clear hK K; refine QY [_] rfl (Qu J QQ) (by rw [decide_eq_false hl]; rfl) J
def sgnR (f : Rf) : Int := if f.xs.length = 0 then 0 else if f.neg then -1 else 1
theorem Sign_raw (f : Rf) : Ok Tryz.prog 83 [.fr (aggT (rfCs f))] (intC (sgnR f)) := by
  refine Ok.enter Tryz.func83 J _ Tryz.ntmps83 J ?_
  intro S w; refine Qy (Qx fun K hK => ?_); refine Qh 0 J J J J J J J (Qj J J J (Qv (hK _ _ (Qz (Qy (Q4 (Qy ?_))))))); clear hK K; refine Qx (fun K hK => ?_); refine QW J J J fF1 J (QK J J J J J lNat J (Q3 J J sNat.und (List.length_map ..) J (Qk ieql J J J J (Qj J J J (Qv (hK _ _ (Qz ?_))))))); clear hK K; refine Q1 J (fun h => ?_) (fun h => ?_)
  · refine Qy (Qx fun K hK => ?_); refine Qj J J J (Qv (hK _ _ (Qz (QU (Q5 (QV ?_)))))); clear hK K; refine QY [_] rfl (Qu J QQ) (by unfold sgnR; rw [if_pos (by omega)]; rfl) J
  · refine Qy (Qx fun K hK => ?_); refine QW J J J fF0 J (QK J J J J J lBool J (Qj J J J (Qv (hK _ _ (Qz ?_))))); clear hK K; refine Zz J (fun g => ?_) (fun g => ?_)
    · refine Qy (Qx fun K hK => ?_); refine Qj J J J (Qv (hK _ _ (Qz (QU (Q5 (QV ?_)))))); clear hK K; refine QY [_] rfl (Qu J QQ) (by unfold sgnR; rw [if_neg (by omega), if_pos g]; rfl) J
    · refine Q0 (Qz (Qy (Qx fun K hK => ?_))); refine Qj J J J (Qv (hK _ _ (Qz (QU ?_)))); clear hK K; refine QY [_] rfl (Qu J QQ) (by unfold sgnR; rw [if_neg (by omega), if_neg (by rw [g]; decide)]; rfl) J
theorem gdf_sgn {f : Rf} (h : gdf f = true) : sgnR f < 0 ↔ f.neg = true := by
  unfold gdf fvalidL at h; simp only [Bool.and_eq_true, Bool.not_eq_true'] at h; have h2 := h.2; unfold sgnR; by_cases h3 : f.xs.length = 0
  · rw [if_pos h3]; rw [decide_eq_true h3, Bool.and_true] at h2; rw [h2]; simp
  · rw [if_neg h3]
    cases f.neg <;> simp
set_option maxHeartbeats 4000000 in
theorem Point_raw (n : Int) (z : List Rf) (hzl : z.length ≤ 1000) (hs : ∀ f ∈ z, Sm f) : Ok Tryz.prog 66 [intC n, rfsC z] (boolC (decide ((z.length : Int) = n) && !z.any badm)) := by
  refine Ok.enter Tryz.func66 J _ Tryz.ntmps66 J ?_
  intro S w; refine Qy (Qx fun K hK => ?_); refine Qj J J J (Qv (hK _ _ (Qz (Qy (Qy ?_))))); clear hK K; refine Qx (fun K hK => ?_); refine Qq J J J (Q3 J J sFracs.und (List.length_map ..) J (Qq J J J (Qk ineq J J J J (Qv (hK _ _ (Qz ?_)))))); clear hK K; refine Q1 J (fun h => ?_) (fun h => ?_)
  · refine Qy (Qx fun K hK => ?_); refine Qj J J J (Qv (hK _ _ (Qz (QU (QV ?_))))); clear hK K; refine QY [_] rfl (Qu J QQ) (by rw [decide_eq_false h]; rfl) J
  have hn : (z.length : Int) = n := Classical.byContradiction h; rw [decide_eq_true hn, Bool.true_and]; refine Q0 (Qz (Qy (Qy (Qx fun K hK => ?_)))); refine Qj J J J (Qv (hK _ _ (Qz (Q4 ?_)))); clear hK K
  refine Qn (α := Nat) (fun i => i ≤ z.length ∧ ∀ j, j < i → badm (z.getD j rf0) = false)
    (fun i => [(0, .ct (intC n)), (1, .ct (rfsC z)), (5, .ct (intC i))]) (fun _ => []) (fun i => z.length - i) 0 ⟨Nat.zero_le _, fun j h => absurd h (Nat.not_lt_zero j)⟩ (by exact QJ J ⟨rfl, rfl, rfl, trivial⟩) ?_
  intro i ⟨hi, hv⟩
  (try dsimp only at hi hv ⊢)
  refine Qy (Qy (Qx fun K hK => ?_)); refine Qq J J J (Qq J J J (Qk ilss J J J J (Qv (hK _ _ (Qz ?_))))); clear hK K; refine Q1 J (fun h2 => ?_) (fun h2 => ?_)
  · have e2 : (i : Int).toNat = i := Int.toNat_natCast i
    have hlt : i < z.length := by omega
    have hmem := Xj (z := rf0) hlt; have hsm := hs _ hmem; have hV := rFValid_list (z.getD i rf0).neg (z.getD i rf0).xs (z.getD i rf0).ys (by have := hsm.x; omega) (by have := hsm.y; omega); have hsg := Sign_raw (z.getD i rf0); have hb : badm (z.getD i rf0) = (!gdf (z.getD i rf0) || (z.getD i rf0).neg) := rfl; have hgs := gdf_sgn (f := z.getD i rf0); rw [show fvalidL (z.getD i rf0).neg (z.getD i rf0).xs (z.getD i rf0).ys = gdf (z.getD i rf0) from rfl] at hV; generalize hgv : gdf (z.getD i rf0) = gv at *; refine Q0 (Qz (Qy (Q4 (Qy (Qx fun K hK => ?_))))); refine Qq J J J (Qq J J J (Qc J J J sFracs (by omega) (rfs_at (by omega) (by omega)) J ?_)); rw [e2]; refine Xk (n := 3) J J J Qg J J (QX gorFValid hV J J J J ?_)
    cases gv with
    | false =>
      refine Qe J J J (Qq J J J (Qw J J J (Qw J J J (Qw J J J (Qw J J J (Qw J J J (Qw J J J (Q6 J J J J (Qv (hK _ _ (Qz (Xq J (Qy ?_))))))))))))); clear hK K; refine Qx (fun K hK => ?_); refine Qj J J J (Qv (hK _ _ (Qz (QU (Q5 (QV (QV (Q5 (QV ?_))))))))); clear hK K; refine QY [_] rfl (Qu J QQ) (by rw [List.any_eq_true.mpr ⟨_, hmem, by rw [hb]; rfl⟩]; rfl) J
    | true =>
      have hsn := hgs J; refine Qe J J J (Qq J J J (Qq J J J (Qq J J J (Qc J J J sFracs (by omega) (rfs_at (by omega) (by omega)) J ?_)))); rw [e2]; refine Xk (n := 3) J J J Qg J J (QX goSign hsg J J J J (Qk ilss J J J J (Q2 J J J J (Qv (hK _ _ (Qz ?_)))))); clear hK K; refine Q1 J (fun h3 => ?_) (fun h3 => ?_)
      · refine Qy (Qx fun K hK => ?_); refine Qj J J J (Qv (hK _ _ (Qz (QU (Q5 (QV (QV (Q5 (QV ?_))))))))); clear hK K; refine QY [_] rfl (Qu J QQ) (by rw [List.any_eq_true.mpr ⟨_, hmem, by rw [hb, hsn.1 h3]; rfl⟩]; rfl) J
      · refine Q0 (Qz (Qx fun K hK => ?_)); refine Qq J J J (Qk (iadd (by omega) (by omega)) J J J J ?_); refine Qj J J J (Qv (hK _ _ (Q7 ?_))); clear hK K; refine Qb (i + 1) (by omega) ⟨by omega, ?_⟩ (by exact QJ J ⟨rfl, rfl, by simp only [Int.natCast_add]; rfl, trivial⟩); intro j hj; rcases Nat.lt_or_ge j i with h7 | h7
        · exact hv j h7
        · rw [show j = i by omega, hb]
          cases hng : (z.getD i rf0).neg with
          | false => rfl
          | true => exact absurd (hsn.2 hng) h3
  · have hi' : i = z.length := by omega
    refine Qm (Qz (Qy (Qx fun K hK => ?_))); refine Qj J J J (Qv (hK _ _ (Qz (QU ?_)))); clear hK K
    refine QY [_] rfl (Qu J QQ) (by
      rw [show z.any badm = false from List.any_eq_false.mpr fun x hx => by
        obtain ⟨j, hj, rfl⟩ := List.getElem_of_mem hx; have := hv j (by omega); rw [List.getD_eq_getElem?_getD, List.getElem?_eq_getElem hj] at this
        simpa using this]; rfl) J
attribute [local irreducible] OkB OkN wpA
theorem rFrom_tw (a b : Int) (ha : -9223372036854775808 ≤ a ∧ a ≤ 9223372036854775807) (hb : 0 ≤ b ∧ b < 4) : ∃ e : Int, 1 ≤ e ∧ e ≤ 12 ∧ Ok Tryz.prog 57 [intC a, intC (1 + b)] (.fr (tupT [twC (a * e), intC 0])) := by
  have hR := rFrom_ok a (1 + b) ha.1 ha.2 (by omega) (by omega) (by omega)
  have key : ∀ d e : Nat, d * e = 12 → 1 + b = (d : Int) → 1 ≤ (e : Int) → (e : Int) ≤ 12 → ∃ e : Int, 1 ≤ e ∧ e ≤ 12 ∧ Ok Tryz.prog 57 [intC a, intC (1 + b)] (.fr (tupT [twC (a * e), intC 0])) := fun d e h1 h2 h3 h4 => by
    refine ⟨(e : Int), h3, h4, ?_⟩
    have h5 : Rat.divInt a (1 + b) = tw (a * e) := by rw [h2]; exact tw_div a d e h1
    rw [h5] at hR
    exact hR
  rcases (by omega : 1 + b = 1 ∨ 1 + b = 2 ∨ 1 + b = 3 ∨ 1 + b = 4) with h | h | h | h
  · exact key 1 12 rfl h (by decide) (by decide)
  · exact key 2 6 rfl h (by decide) (by decide)
  · exact key 3 4 rfl h (by decide) (by decide)
  · exact key 4 3 rfl h (by decide) (by decide)
set_option maxHeartbeats 4000000 in
theorem Fractions_ok (bs : List Int) (p : Nat) (n : Int) (h0 : 0 ≤ n) (h1 : n ≤ 10) (hb : Bytes bs) :
    OkB Tryz.prog 15 82 (codes bs p) [intC n] (fun q : List Int × Nat => (q.1.length : Int) = n ∧ ∀ y ∈ q.1, 0 ≤ y ∧ y ≤ 132) (fun q => twsC q.1) (fun q => codes bs q.2) := by
  refine OkB.enter Tryz.func15 rfl _ Tryz.ntmps15 rfl ?_
  intro S w g
  (refine Qy (Qx fun K hK => ?_); refine Qj rfl rfl rfl ?_; refine Qv (hK _ _ (Qz (Qy ?_))); clear hK K; refine Qx (fun K hK => ?_); refine Qj rfl rfl rfl ?_; refine Qv (hK _ _ (Qz (Qy (Q4 ?_)))); clear hK K)
  refine Zx 5 1 38 3 rfl rfl rfl ?_
  refine Qn (α := Int × List Int × Nat) (fun x => 0 ≤ x.1 ∧ x.2.1.length + x.1 = n ∧ ∀ y ∈ x.2.1, 0 ≤ y ∧ y ≤ 132)
    (fun x => [(0, .own 0), (1, .ct (intC x.1)), (5, .own 1)]) (fun x => [(1, .row 38 3 (frs x.2.1)), (0, .box 82 (codes bs x.2.2))]) (fun x => x.1.toNat) (n, [], p) ⟨h0, by simp, by simp⟩ (by exact QJ rfl ⟨rfl, rfl, rfl, trivial⟩) ?_
  rintro ⟨m, ys, p1⟩ ⟨hm0, hml, hys⟩
  dsimp only at hm0 hml hys ⊢
  (refine Qy (Qy (Qx fun K hK => ?_)); refine Qq rfl rfl rfl ?_; refine Qk igtr rfl rfl rfl rfl ?_; refine Qv (hK _ _ (Qz ?_)); clear hK K)
  refine Q1 rfl (fun hm => ?_) (fun hm => ?_)
  · (refine Q0 (Qz (Qy (Q4 (Qy (Qx fun K hK => ?_))))); refine Qq rfl rfl rfl ?_)
    refine Xb goNext (Next_ok bs p1 12 (by decide) (by decide) hb) rfl rfl rfl rfl rfl (fun q hq => ?_)
    obtain ⟨a, p2⟩ := q
    dsimp only at hq ⊢
    (refine Qq rfl rfl rfl ?_)
    refine Xb goNext (Next_ok bs p2 4 (by decide) (by decide) hb) rfl rfl rfl rfl rfl (fun q hq1 => ?_)
    obtain ⟨b, p3⟩ := q
    dsimp only at hq1 ⊢
    obtain ⟨e, he1, he2, hF⟩ := rFrom_tw a b ⟨by omega, by omega⟩ hq1
    have hae : 0 ≤ a * e ∧ a * e ≤ 132 := ⟨Int.mul_nonneg (by omega) (by omega), by
      have h1 := Int.mul_le_mul_of_nonneg_right (show a ≤ 11 by omega) (show 0 ≤ e by omega)
      omega⟩
    generalize a * e = y at hF hae
    (refine Qk (iadd (by omega) (by omega)) rfl rfl rfl rfl ?_)
    refine QX gorFrom hF rfl rfl rfl rfl ?_
    (refine Qq rfl rfl rfl ?_; refine QZ rfl rfl rfl rfl ?_; refine QZ rfl rfl rfl rfl ?_; refine Qa 2 rfl rfl (by with_reducible first | exact zvFrac) rfl rfl rfl ?_; refine Q8 3 rfl rfl rfl rfl rfl (by with_reducible exact szFrac) rfl rfl ?_; refine Qj rfl rfl rfl ?_; refine Qv (hK _ _ (Qz ?_)); clear hK K; refine Qx (fun K hK => ?_); refine Qq rfl rfl rfl ?_; refine Qd (n := 3) rfl rfl rfl rfl rfl (by with_reducible exact Qg) rfl ?_)
    refine Ops.litN (n := 3) rfl rfl (by with_reducible exact sFracs) rfl rfl (by decide) rfl ?_
    refine Qt ys.length (frs (ys ++ [y])) rfl rfl rfl rfl (by with_reducible exact sFracs) (frs_len ys) rfl (by omega) (by omega) (frs_snoc ys y) rfl ?_
    (refine Qj rfl rfl rfl ?_; refine Qv (hK _ _ (Qz ?_)); clear hK K; refine Qx (fun K hK => ?_); refine Qq rfl rfl rfl ?_; refine Qk (isub (by omega) (by omega)) rfl rfl rfl rfl ?_; refine Qj rfl rfl rfl ?_; refine Qv (hK _ _ (Q7 ?_)); clear hK K)
    refine Xy 2 ?_
    refine Qb (m - 1, ys ++ [y], p3) (by dsimp only; omega) ⟨by dsimp only; omega, by simp; omega, mem_snoc hys hae⟩ (by exact QJ rfl ⟨rfl, rfl, rfl, trivial⟩)
  · refine St.frz 1 _ rfl (frs_frozen _ _) (okFix_lent rfl) ?_
    (refine Qm (Qz (Qy (Qx fun K hK => ?_))); refine Qq rfl rfl rfl ?_; refine Qj rfl rfl rfl ?_; refine Qv (hK _ _ (Qz (QU ?_))); clear hK K)
    refine Fin.retB (ys, p1) [_] rfl (Qu rfl QQ) rfl rfl ⟨by show (ys.length : Int) = n; omega, hys⟩
theorem goFractions : InGo Tryz.prog 15 := InGo.of Tryz.func15 rfl (by decide)
attribute [local irreducible] OkM tf
theorem sFracss : SlcT Tryz.prog 34 25 1 24 (.slice none 0 0) := SlcT.of Tryz.underlying34 (by kernel_rfl) rfl (by decide)
theorem tf_f6 {m : Int} (h0 : 0 ≤ m) (h1 : m ≤ 132) : F6 (tf m) := by
  have h2 := tf_num_le m
  have h3 := tf_den m
  refine ⟨by omega, by omega, h3.1, fun h => ?_⟩
  rw [tf_neg, decide_eq_true_eq] at h
  omega
theorem Fractions_fr (bs : List Int) (p : Nat) (n : Int) (h0 : 0 ≤ n) (h1 : n ≤ 10) (hb : Bytes bs) :
    OkB Tryz.prog 15 82 (codes bs p) [intC n] (fun q : List Int × Nat => (q.1.length : Int) = n ∧ ∀ y ∈ q.1, 0 ≤ y ∧ y ≤ 132) (fun q => fracsC (q.1.map tf)) (fun q => codes bs q.2) := by
  have h := Fractions_ok bs p n h0 h1 hb
  rwa [show (fun q : List Int × Nat => twsC q.1) = fun q => fracsC (q.1.map tf) from funext fun q => twsC_eq q.1] at h
theorem tfs_f6 {ms : List Int} (h : ∀ y ∈ ms, 0 ≤ y ∧ y ≤ 132) : ∀ f ∈ ms.map tf, F6 f := fun f hf => by
  obtain ⟨m, hm, rfl⟩ := List.mem_map.1 hf
  exact tf_f6 (h m hm).1 (h m hm).2
end Go.Proofs.YtdhmbgogmoaofaaGreat
namespace Go.Proofs.YtdhmbgogmoaofaaGreat
open Go.Own Go.Limbs
attribute [local irreducible] St Ops Go.Own.Fin Ok OkB OkN OkM wpA
def smB (f : Rf) : Bool := decide (f.xs.length ≤ 6) && decide (f.ys.length ≤ 6)
def shortL (x : List Rf) : Bool := decide (x.length ≤ 6) && x.all smB
def small35 (rs : List Rw) (c : List Int) (l : List (List Rf)) : Bool := (decide (rs.length ≤ 6) && decide (c.length ≤ 6)) && (rs.all (fun r => decide (r.cs.length ≤ 6)) && l.all shortL)
abbrev rfssC (l : List (List Rf)) : CT := .fr (sliceT 1 (l.map fun x => [rfsC x]))
theorem all_of {α : Type} {p : α → Bool} {xs : List α} {z : α} (h : ∀ j, j < xs.length → p (xs.getD j z) = true) : xs.all p = true := by
  rw [List.all_eq_true]; intro x hx; obtain ⟨j, hj, rfl⟩ := List.getElem_of_mem hx; have := h j hj; rw [List.getD_eq_getElem?_getD, List.getElem?_eq_getElem hj] at this
  simpa using this
theorem gosmall35 : InGo Tryz.prog 45 := InGo.of Tryz.func45 (by kernel_rfl) (by kernel_rfl)
set_option maxHeartbeats 4000000 in
theorem small35_ok (rs : List Rw) (c : List Int) (l : List (List Rf)) (hrl : rs.length ≤ 9223372036854775807) (hr : ∀ r ∈ rs, r.cs.length ≤ 9223372036854775807) (hcl : c.length ≤ 9223372036854775807) (hll : l.length ≤ 9223372036854775807) (hl : ∀ x ∈ l, x.length ≤ 9223372036854775807 ∧ ∀ f ∈ x, f.xs.length ≤ 9223372036854775807 ∧ f.ys.length ≤ 9223372036854775807) :
    Ok Tryz.prog 45 [rowsC rs, intsC c, rfssC l] (boolC (small35 rs c l)) := by
  have e0 : small35 rs c l = ((decide (rs.length ≤ 6) && decide (c.length ≤ 6)) && (rs.all (fun r => decide (r.cs.length ≤ 6)) && l.all shortL)) := rfl
  refine Ok.enter Tryz.func45 J _ Tryz.ntmps45 J ?_
  intro S w; refine Qy (Qx fun K hK => ?_); refine Qj J J J (Qv (hK _ _ (Qz (Qy (Qy ?_))))); clear hK K; refine Qx (fun K hK => ?_); refine Qq J J J (Q3 J J sRows.und (List.length_map ..) J (Qk igtr J J J J (Qq J J J (Qi 16 J (fun h => ?_) (fun h => ?_)))))
  · refine Qw J J J (Qw J J J (Qw J J J (Q6 J J J J (Qv (hK _ _ (Qz (Xq J (Qy ?_)))))))); clear hK K; refine Qx (fun K hK => ?_); refine Qj J J J (Qv (hK _ _ (Qz (QU (QV ?_))))); clear hK K; refine QY [_] rfl (Qu J QQ) (by rw [e0, decide_eq_false (show ¬ rs.length ≤ 6 by omega)]; rfl) J
  refine Qq J J J (Q3 J J sInts.und (List.length_map ..) J (Qk igtr J J J J (Q2 J J J J (Qv (hK _ _ (Qz ?_)))))); clear hK K; refine Q1 J (fun h2 => ?_) (fun h2 => ?_)
  · refine Qy (Qx fun K hK => ?_); refine Qj J J J (Qv (hK _ _ (Qz (QU (QV ?_))))); clear hK K; refine QY [_] rfl (Qu J QQ) (by rw [e0, decide_eq_false (show ¬ c.length ≤ 6 by omega), Bool.and_false]; rfl) J
  have e1 : small35 rs c l = (rs.all (fun r => decide (r.cs.length ≤ 6)) && l.all shortL) := by rw [e0, decide_eq_true (show rs.length ≤ 6 by omega), decide_eq_true (show c.length ≤ 6 by omega)]; rfl
  refine Q0 (Qz (Qy (Qy (Qx fun K hK => ?_)))); refine Qq J J J (Q3 J J sRows.und (List.length_map ..) J (Qq J J J (Qv (hK _ _ (Qz (Q4 ?_)))))); clear hK K
  refine Qn (α := Nat) (fun i => i ≤ rs.length ∧ ∀ j, j < i → (rs.getD j rw0).cs.length ≤ 6)
    (fun i => [(2, .ct (rfssC l)), (21, .ct (rowsC rs)), (22, .ct (intC rs.length)), (23, .ct (intC i))]) (fun _ => []) (fun i => rs.length - i) 0 ⟨Nat.zero_le _, fun j h => absurd h (Nat.not_lt_zero j)⟩ (by exact QJ J ⟨rfl, rfl, rfl, rfl, trivial⟩) ?_
  intro i ⟨hi, hv⟩
  (try dsimp only at hi hv ⊢)
  refine Qy (Qx fun K hK => ?_); refine Qk ilss J J J J (Qv (hK _ _ (Qz (Qy ?_)))); clear hK K; refine Q1 J (fun h4 => ?_) (fun h4 => ?_)
  · have e2 : (i : Int).toNat = i := Int.toNat_natCast i
    have hlt : i < rs.length := by omega
    have hri := hr _ (Xj (z := rw0) hlt); refine Q0 (Qz (Qy (Q4 (Qy (Qx fun K hK => ?_)))))
    refine Qc J J J sRows (by omega) (ZQ (by omega) (by omega)) J ?_
    refine Xk (n := 2) J J J lRow J J (Qa 0 J J zvRow J J J (Q8 2 J J J J J szRow J J (Qv (hK _ _ (Qz (Qy ?_)))))); clear hK K; refine Qx (fun K hK => ?_); refine QW J J J fR0 J (QK J J J J J lInts J (Q3 J J sInts.und (List.length_map ..) J (Qk igtr J J J J (Qv (hK _ _ (Qz ?_)))))); clear hK K; rw [e2]; skip; refine Q1 J (fun h5 => ?_) (fun h5 => ?_)
    · refine Qy (Qx fun K hK => ?_); refine Qj J J J (Qv (hK _ _ (Qz (QU (Q5 (QV (QV (Q5 (QV ?_))))))))); clear hK K
      refine QY [_] rfl (Qu J QQ) (by
        rw [e1, show rs.all (fun r => decide (r.cs.length ≤ 6)) = false from List.all_eq_false.mpr ⟨_, Xj (z := rw0) hlt, by rw [decide_eq_true_eq]; omega⟩]; rfl) J
    · refine Q0 (Qz (Qx fun K hK => ?_))
      refine Qk (iadd (by omega) (by omega)) J J J J ?_
      refine Qq J J J (Qv (hK _ _ (Q7 ?_))); clear hK K; refine Xy 0 (Qb (i + 1) (by omega) ⟨by omega, ?_⟩ (by exact QJ J ⟨rfl, rfl, rfl, by simp only [Int.natCast_add]; rfl, trivial⟩)); intro j hj; rcases Nat.lt_or_ge j i with h7 | h7
      · exact hv j h7
      · rw [show j = i by omega]; omega
  have hall : rs.all (fun r => decide (r.cs.length ≤ 6)) = true := all_of (z := rw0) fun j hj => decide_eq_true (hv j (by omega))
  rw [hall, Bool.true_and] at e1; refine Qm (Qz (Qy (Qy (Qx fun K hK => ?_)))); refine Qq J J J (Q3 (m := l.length) J J sFracss.und (by rw [List.length_map]) J ?_); refine Qq J J J (Qv (hK _ _ (Qz (Q4 ?_)))); clear hK K
  refine Qn (α := Nat) (fun k => k ≤ l.length ∧ ∀ j, j < k → shortL (l.getD j []) = true)
    (fun k => [(32, .ct (rfssC l)), (33, .ct (intC l.length)), (34, .ct (intC k))]) (fun _ => []) (fun k => l.length - k) 0 ⟨Nat.zero_le _, fun j h => absurd h (Nat.not_lt_zero j)⟩ (by exact QJ J ⟨rfl, rfl, rfl, trivial⟩) ?_
  intro k ⟨hk, hw⟩
  (try dsimp only at hk hw ⊢)
  refine Qy (Qx fun K hK => ?_); refine Qk ilss J J J J (Qv (hK _ _ (Qz (Qy ?_)))); clear hK K; refine Q1 J (fun h4 => ?_) (fun h4 => ?_)
  · have e2 : (k : Int).toNat = k := Int.toNat_natCast k
    have hlt : k < l.length := by omega
    have hmem := Xj (z := ([] : List Rf)) hlt; obtain ⟨x1, x2⟩ := hl _ hmem
    have bad : shortL (l.getD k []) = false → small35 rs c l = false := fun hb => by
      rw [e1]; exact List.all_eq_false.mpr ⟨_, hmem, by rw [hb]; decide⟩
    have good : shortL (l.getD k []) = true → ∀ j, j < k + 1 → shortL (l.getD j []) = true := fun hb j hj => by
      rcases Nat.lt_or_ge j k with h7 | h7
      · exact hw j h7
      · rw [show j = k by omega]; exact hb
    refine Q0 (Qz (Qy (Q4 (Qy (Qx fun K hK => ?_)))))
    refine Qc J J J sFracss (by omega) (map_at (fun y => [rfsC y]) [] (by omega) (by omega)) J ?_
    rw [e2]; generalize l.getD k [] = x at x1 x2 bad good; have bd : shortL x = (decide (x.length ≤ 6) && x.all smB) := rfl; refine Ql J J J lFracs J (Qj J J J (Qv (hK _ _ (Qz (Qy (Qy ?_)))))); clear hK K; refine Qx (fun K hK => ?_); refine Qq J J J (Q3 J J sFracs.und (List.length_map ..) J (Qk igtr J J J J (Qv (hK _ _ (Qz ?_))))); clear hK K; refine Q1 J (fun h5 => ?_) (fun h5 => ?_)
    · refine Qy (Qx fun K hK => ?_); refine Qj J J J (Qv (hK _ _ (Qz (QU (QV (Q5 (QV (QV (Q5 (QV ?_)))))))))); clear hK K; refine QY [_] rfl (Qu J QQ) (by rw [bad (by rw [bd, decide_eq_false (show ¬ x.length ≤ 6 by omega)]; rfl)]; rfl) J
    rw [decide_eq_true (show x.length ≤ 6 by omega), Bool.true_and] at bd; rw [bd] at bad good; refine Q0 (Qz (Qy (Qx fun K hK => ?_))); refine Qq J J J (Q3 J J sFracs.und (List.length_map ..) J (Qq J J J (Qv (hK _ _ (Qz (Q4 ?_)))))); clear hK K
    refine Qn (α := Nat) (fun i => i ≤ x.length ∧ ∀ j, j < i → smB (x.getD j rf0) = true)
      (fun i => [(32, .ct (rfssC l)), (33, .ct (intC l.length)), (34, .ct (intC k)), (41, .ct (rfsC x)), (42, .ct (intC x.length)), (43, .ct (intC i))]) (fun _ => []) (fun i => x.length - i) 0 ⟨Nat.zero_le _, fun j h => absurd h (Nat.not_lt_zero j)⟩ (by exact QJ J ⟨rfl, rfl, rfl, rfl, rfl, rfl, trivial⟩) ?_
    intro i ⟨hi, hv⟩
    (try dsimp only at hi hv ⊢)
    refine Qy (Qx fun K hK => ?_); refine Qk ilss J J J J (Qv (hK _ _ (Qz (Qy ?_)))); clear hK K; refine Q1 J (fun h6 => ?_) (fun h6 => ?_)
    · have e3 : (i : Int).toNat = i := Int.toNat_natCast i
      have hlt2 : i < x.length := by omega
      have hmem2 := Xj (z := rf0) hlt2; obtain ⟨y1, y2⟩ := x2 _ hmem2
      have bad2 : smB (x.getD i rf0) = false → small35 rs c l = false := fun hb => bad (List.all_eq_false.mpr ⟨_, hmem2, by rw [hb]; decide⟩)
      have good2 : smB (x.getD i rf0) = true → ∀ j, j < i + 1 → smB (x.getD j rf0) = true := fun hb j hj => by
        rcases Nat.lt_or_ge j i with h7 | h7
        · exact hv j h7
        · rw [show j = i by omega]; exact hb
      refine Q0 (Qz (Qy (Q4 (Qy (Qx fun K hK => ?_)))))
      refine Qc J J J sFracs (by omega) (rfs_at (by omega) (by omega)) J ?_
      rw [e3]; generalize x.getD i rf0 = f at y1 y2 bad2 good2; have be : smB f = (decide (f.xs.length ≤ 6) && decide (f.ys.length ≤ 6)) := rfl; refine Xk (n := 3) J J J Qg J J (Qa 0 J J zvFrac J J J (Q8 3 J J J J J szFrac J J (Qv (hK _ _ (Qz (Qy ?_)))))); clear hK K; refine Qx (fun K hK => ?_); refine QW J J J fF1 J (QK J J J J J lNat J (Q3 J J sNat.und (List.length_map ..) J (Qk igtr J J J J (Qq J J J (Qi 51 J (fun h5 => ?_) (fun h5 => ?_))))))
      · refine Qw J J J (Qw J J J (Qw J J J (Qw J J J (Q6 J J J J (Qv (hK _ _ (Qz (Xq J (Qy ?_))))))))); clear hK K; refine Qx (fun K hK => ?_); refine Qj J J J (Qv (hK _ _ (Qz (QU (Q5 (QV (QV (Q5 (Q5 (QV (QV (Q5 (QV ?_))))))))))))); clear hK K; refine QY [_] rfl (Qu J QQ) (by rw [bad2 (by rw [be, decide_eq_false (show ¬ f.xs.length ≤ 6 by omega)]; rfl)]; rfl) J
      refine QW J J J fF2 J (QK J J J J J lNat J (Q3 J J sNat.und (List.length_map ..) J (Qk igtr J J J J (Q2 J J J J (Qv (hK _ _ (Qz ?_))))))); clear hK K; refine Q1 J (fun h7 => ?_) (fun h7 => ?_)
      · refine Qy (Qx fun K hK => ?_); refine Qj J J J (Qv (hK _ _ (Qz (QU (Q5 (QV (QV (Q5 (Q5 (QV (QV (Q5 (QV ?_))))))))))))); clear hK K; refine QY [_] rfl (Qu J QQ) (by rw [bad2 (by rw [be, decide_eq_false (show ¬ f.ys.length ≤ 6 by omega), Bool.and_false])]; rfl) J
      · refine Q0 (Qz (Qx fun K hK => ?_))
        refine Qk (iadd (by omega) (by omega)) J J J J ?_
        refine Qq J J J (Qv (hK _ _ (Q7 ?_))); clear hK K; refine Xy 0 (Qb (i + 1) (by omega) ⟨by omega, good2 (by rw [be, decide_eq_true (show f.xs.length ≤ 6 by omega), decide_eq_true (show f.ys.length ≤ 6 by omega)]; rfl)⟩ (by exact QJ J ⟨rfl, rfl, rfl, rfl, rfl, by simp only [Int.natCast_add]; rfl, trivial⟩))
    · refine Qm (Qz (Qx fun K hK => ?_))
      refine Qk (iadd (by omega) (by omega)) J J J J ?_
      refine Qq J J J (Qv (hK _ _ (Q7 ?_))); clear hK K; refine Qb (k + 1) (by omega) ⟨by omega, good (all_of (z := rf0) fun j hj => hv j (by omega))⟩ (by exact QJ J ⟨rfl, rfl, by simp only [Int.natCast_add]; rfl, trivial⟩)
  · refine Qm (Qz (Qy (Qx fun K hK => ?_))); refine Qj J J J (Qv (hK _ _ (Qz (QU ?_)))); clear hK K; refine QY [_] rfl (Qu J QQ) (by rw [e1, all_of (z := ([] : List Rf)) fun j hj => hw j (by omega)]; rfl) J
end Go.Proofs.YtdhmbgogmoaofaaGreat
namespace Go.Proofs.YtdhmbgogmoaofaaGreat
open Go.Own Go.Limbs
attribute [local irreducible] St Ops Go.Own.Fin Ok
def cmpF (f u : Fr) : Int := (sg f.neg f.num * u.den - sg u.neg u.num * f.den).sign
theorem cmpF_flip (f u : Fr) : cmpF u f = -cmpF f u := by
  unfold cmpF; rw [← Int.sign_neg, Int.neg_sub]
theorem FCompare_F (f u : Fr) (h1 : (limbs f.num).length ≤ 90) (h2 : (limbs f.den).length ≤ 90) (h3 : (limbs u.num).length ≤ 90) (h4 : (limbs u.den).length ≤ 90) : Ok Tryz.prog 65 [fracC f, fracC u] (.fr (tupT [intC (cmpF f u), intC 0])) := by
  have h := FCompare_gen f u h1 h2 h3 h4
  have e : cmpF f u = if sumN f.neg (f.num * u.den) (!u.neg) (u.num * f.den) = 0 then 0 else if sumS f.neg (f.num * u.den) (!u.neg) (u.num * f.den) then -1 else 1 := by
    have e1 := sum_sg f.neg (f.num * u.den) (!u.neg) (u.num * f.den); rw [← sg_sign, e1, sg_not, Y4, Y4]; unfold cmpF
    congr 1
  rw [e]; exact h
theorem less_F (a b : Fr) (ha : VF a) (hb : VF b) : Ok Tryz.prog 101 [fracC a, fracC b] (boolC (decide (cmpF a b < 0))) := by
  have h1 := ha.num; have h2 := ha.den; have h3 := hb.num; have h4 := hb.den
  refine Ok.enter Tryz.func101 J _ Tryz.ntmps101 J ?_
  intro S w; refine Qy (Qx fun K hK => ?_); refine Qh 0 J J J J J J J (Qh 1 J J J J J J J (Qj J J J (Qv (hK _ _ (Qz (Qy ?_)))))); clear hK K; refine Qx (fun K hK => ?_); refine Qd (n := 3) J J J J J Qg J (Qd (n := 3) J J J J J Qg J (QX goFCompare (FCompare_F a b (by omega) (by omega) (by omega) (by omega)) J J J J ?_)); refine Qq J J J (QZ J J J J (QZ J J J J (Qj J J J (Qj J J J (Qv (hK _ _ (Qz (Qy ?_)))))))); clear hK K; refine Qx (fun K hK => ?_); refine Qq J J J (Qk ilss J J J J (Qj J J J (Qv (hK _ _ (Qz (QU ?_)))))); clear hK K; refine QY [_] rfl (Qu J QQ) J J
set_option maxHeartbeats 8000000 in
theorem rFOrder_F (f u : Fr) (df : 0 < f.den) (dh : 0 < u.den) (l1 : (limbs f.num).length ≤ 1000) (l2 : (limbs f.den).length ≤ 1000) (l3 : (limbs u.num).length ≤ 1000) (l4 : (limbs u.den).length ≤ 1000) : Ok Tryz.prog 78 [fracC f, fracC u] (intC (cmpF f u)) := by
  have h1 := rOpposite_ok u; have h2 := rsum_ok f (oppF u) l1 l2 l3 l4 df dh
  have hz : sg (sumS f.neg (f.num * (oppF u).den) (oppF u).neg ((oppF u).num * f.den)) (sumN f.neg (f.num * (oppF u).den) (oppF u).neg ((oppF u).num * f.den)) = sg f.neg f.num * u.den - sg u.neg u.num * f.den := by
    rw [sum_sg, Y4, Y4]
    have e : sg (oppF u).neg (oppF u).num = -sg u.neg u.num := by
      show sg (!u.neg && decide (u.num ≠ 0)) u.num = _; rw [← sg_not]; by_cases h0 : u.num = 0
      · rw [h0]; unfold sg; split <;> split <;> rfl
      · rw [decide_eq_true h0, Bool.and_true]
    rw [e, Int.neg_mul]; rfl
  have hr := redF_z (sumS f.neg (f.num * (oppF u).den) (oppF u).neg ((oppF u).num * f.den)) (sumN f.neg (f.num * (oppF u).den) (oppF u).neg ((oppF u).num * f.den)) (f.den * (oppF u).den) (Nat.mul_pos df dh); rw [hz] at hr; have hc : cmpF f u = (sg f.neg f.num * u.den - sg u.neg u.num * f.den).sign := rfl; generalize redF (sumS f.neg (f.num * (oppF u).den) (oppF u).neg ((oppF u).num * f.den)) (sumN f.neg (f.num * (oppF u).den) (oppF u).neg ((oppF u).num * f.den)) (f.den * (oppF u).den) = d at *; generalize sg f.neg f.num * u.den - sg u.neg u.num * f.den = z at *; generalize oppF u = oq at *; have hlen := limbs_len_pos (n := d.num)
  have res1 : d.neg = true → cmpF f u = -1 := fun h => by
    rw [hr.1] at h; rw [hc]; exact Int.sign_eq_neg_one_of_neg (of_decide_eq_true h)
  have res2 : d.neg = false → cmpF f u = min ((limbs d.num).length : Int) 1 := fun h => by
    rw [hr.1] at h; have h3 := of_decide_eq_false h; rw [hc]; by_cases h4 : z = 0
    · rw [h4]; have := hr.2.2 h4
      have h5 : (limbs d.num).length = 0 := by omega
      rw [h5]; rfl
    · rw [Int.sign_eq_one_of_pos (by omega)]
      have : d.num ≠ 0 := fun h5 => h4 (hr.2.1 h5)
      omega
  clear hr hz hc
  refine Ok.enter Tryz.func78 J _ Tryz.ntmps78 J ?_
  intro S w; refine Qy (Qx fun K hK => ?_); refine Qh 0 J J J J J J J (Qh 1 J J J J J J J (Qj J J J (Qv (hK _ _ (Qz (Qy ?_)))))); clear hK K; refine Xz mixed 5 (.f 0 (.f 1 (.fork 2 (.fork 3 (.m 4 (.a 5 .done)) 4 (.m 3 (.a 5 .done))) 4 (.m 2 (.m 3 (.a 5 .done)))))) (by kernel_rfl) (fun K hK => ?_); refine (fun (cont : Go.Own.Fin _ [(5, .own 2)] [(2, .box 38 (frCs d)), (1, .box 38 (frCs u)), (0, .box 38 (frCs f))] K) => ?_) (hK _ _ ?_); rotate_left
  · clear hK K; refine Qz (Qy (Qy (Qx fun K hK => ?_))); refine QW J J J fF0 J (QK J J J J J lBool J (Qv (hK _ _ (Qz ?_)))); clear hK K; refine Zz J (fun g => ?_) (fun g => ?_)
    · refine Qy (Qx fun K hK => ?_); refine Qj J J J (Qv (hK _ _ (Qz (QU (QV ?_))))); clear hK K; refine QY [_] rfl (Qu J QQ) (by rw [res1 g]; rfl) J
    · refine Q0 (Qz (Qy (Qx fun K hK => ?_))); refine QW J J J fF1 J (QK J J J J J lNat J (Q3 J J sNat.und (List.length_map ..) J (Ops.min2 J J J J (Qj J J J (Qv (hK _ _ (Qz (QU ?_)))))))); clear hK K; refine QY [_] rfl (Qu J QQ) (by rw [res2 g]; rfl) J
  clear hK; refine Qd (n := 3) J J J J J Qg J (Qd (n := 3) J J J J J Qg J (Y0 ?_ ?_))
  · refine QX gorOpposite h1 J J J J (Y0 ?_ ?_)
    · refine QX gorsum h2 J J J J (Qa 2 J J zvFrac J J J (Q8 3 J J J J J szFrac J J ?_)); exact Qv (Za cont ⟨rfl, trivial⟩)
    · refine Qa 2 J J zvFrac J J J (QX gorsum h2 J J J J (Q8 3 J J J J J szFrac J J ?_)); exact Qv (Za cont ⟨rfl, trivial⟩)
  · refine Qa 2 J J zvFrac J J J (QX gorOpposite h1 J J J J (QX gorsum h2 J J J J (Q8 3 J J J J J szFrac J J ?_))); exact Qv (Za cont ⟨rfl, trivial⟩)
theorem rFCompare_F (f u : Fr) (hf : VF f) (hu : VF u) : Ok Tryz.prog 25 [fracC f, fracC u] (.fr (tupT [intC (cmpF f u), intC 0])) := by
  have h1 := hf.num; have h2 := hf.den; have h3 := hu.num; have h4 := hu.den
  refine Ok.enter Tryz.func25 J _ Tryz.ntmps25 J ?_
  intro S w; refine Qy (Qx fun K hK => ?_); refine Qh 0 J J J J J J J (Qh 1 J J J J J J J (Qj J J J (Qj J J J (Qv (hK _ _ (Qz (Qy ?_))))))); clear hK K; refine Qx (fun K hK => ?_); refine Qd (n := 3) J J J J J Qg J (Qd (n := 3) J J J J J Qg J (QX gorFOrderQ (rFOrder_F f u hf.pos hu.pos (by omega) (by omega) (by omega) (by omega)) J J J J ?_)); refine Qj J J J (Qj J J J (Qv (hK _ _ (Qz (QU ?_))))); clear hK K; refine QY [_, _] rfl (Qu J (Qu J QQ)) J J
theorem SzQ.int63 {b : Int} (h : -9223372036854775808 ≤ b ∧ b ≤ 9223372036854775807) : SzQ (b : Rat) :=
  ⟨Nat.le_trans (Qf (k := 3) (Nat.lt_of_le_of_lt (show (ofQ (b : Rat)).num ≤ 9223372036854775808 from (show b.natAbs ≤ 9223372036854775808 by omega)) (by decide))) (by decide), by rw [ofQ_int_den]; exact Nat.le_trans (Qf (k := 1) (by decide)) (by decide)⟩
set_option maxHeartbeats 4000000 in
theorem covers_w (os : List Rat) (c : List Int) (hl : os.length ≤ 64) (hlc : c.length ≤ 64) (ho : ∀ y ∈ os, SzQ y) (hc : ∀ y ∈ c, -9223372036854775808 ≤ y ∧ y ≤ 9223372036854775807) : Ok Tryz.prog 100 [ratsC os, intsC c] (boolC (covQ os c)) := by
  refine Ok.enter Tryz.func100 J _ Tryz.ntmps100 J ?_
  intro S w; refine Qy (Qx fun K hK => ?_); refine Qj J J J (Qv (hK _ _ (Qz (Qy (Qy ?_))))); clear hK K; refine Qx (fun K hK => ?_); refine Qq J J J (Q3 J J sInts.und (List.length_map ..) J (Qq J J J (Q3 J J sFracs.und (List.length_map ..) J (Qk igtr J J J J (Qv (hK _ _ (Qz ?_))))))); clear hK K; refine Q1 J (fun h => ?_) (fun h => ?_)
  · refine Qy (Qx fun K hK => ?_); refine Qj J J J (Qv (hK _ _ (Qz (QU (QV ?_))))); clear hK K; refine QY [_] rfl (Qu J QQ) (by unfold covQ; rw [decide_eq_false (show ¬ c.length ≤ os.length by omega)]; rfl) J
  have hle : c.length ≤ os.length := by omega
  clear h; refine Q0 (Qz (Qy (Qy (Qx fun K hK => ?_)))); refine Qq J J J (Q3 J J sFracs.und (List.length_map ..) J (Qq J J J (Qv (hK _ _ (Qz (Q4 ?_)))))); clear hK K
  refine Qn (α := Nat) (fun i => i ≤ os.length ∧ ∀ j, j < i → ¬ cmpQ (os.getD j 0) (c.getD j 0 : Rat) < 0)
    (fun i => [(1, .ct (intsC c)), (15, .ct (ratsC os)), (16, .ct (intC os.length)), (17, .ct (intC i))]) (fun _ => []) (fun i => os.length - i) 0 ⟨Nat.zero_le _, fun j h => absurd h (Nat.not_lt_zero j)⟩ (by exact QJ J ⟨rfl, rfl, rfl, rfl, trivial⟩) ?_
  intro i ⟨hi, hj⟩; dsimp only at hi hj ⊢; refine Qy (Qx fun K hK => ?_); refine Qk ilss J J J J (Qv (hK _ _ (Qz (Qy ?_)))); clear hK K; refine Q1 J (fun h => ?_) (fun h => ?_)
  · have e2 : (i : Int).toNat = i := Int.toNat_natCast i
    have hlt : i < os.length := by omega
    have b0 := ho (os.getD i 0) (Xj hlt)
    have b1 : -9223372036854775808 ≤ c.getD i 0 ∧ c.getD i 0 ≤ 9223372036854775807 := by
      rcases Nat.lt_or_ge i c.length with h | h
      · exact hc _ (Xj h)
      · rw [List.getD_eq_getElem?_getD, List.getElem?_eq_none (by omega)]; decide
    have hbad : cmpQ (os.getD i 0) (c.getD i 0 : Rat) < 0 → covQ os c = false := fun hgt => by
      unfold covQ; rw [List.all_eq_false.mpr ⟨i, List.mem_range.mpr hlt, by rw [decide_eq_true hgt]; decide⟩, Bool.and_false]
    have hgood : ¬ (cmpQ (os.getD i 0) (c.getD i 0 : Rat) < 0) → ∀ j, j < i + 1 → ¬ cmpQ (os.getD j 0) (c.getD j 0 : Rat) < 0 := fun hng j hj' => by
      rcases Nat.lt_or_ge j i with h3 | h3
      · exact hj j h3
      · have : j = i := by omega
        rw [this]; exact hng
    refine Q0 (Qz (Qy (Q4 (Qy (Qx fun K hK => ?_))))); refine Qq J J J (Qc J J J sFracs (by omega) (Xl (by omega) (by omega)) J ?_); refine Xk (n := 3) J J J Qg J J (Qa 0 J J zvFrac J J J (Qj J J J (Q8 3 J J J J J szFrac J J (Qv (hK _ _ (Qz (Qy ?_))))))); clear hK K; refine Qx (fun K hK => ?_); refine Qj J J J (Qv (hK _ _ (Qz (Qy (Qy ?_))))); clear hK K; refine Qx (fun K hK => ?_); refine Qq J J J (Qq J J J (Q3 J J sInts.und (List.length_map ..) J (Qk ilss J J J J (Qv (hK _ _ (Qz ?_)))))); clear hK K; rw [e2]; skip; refine Q1 J (fun h3 => ?_) (fun h3 => ?_)
    · refine Qx (fun K hK => ?_); refine Qq J J J (Qq J J J (Qc J J J sInts (by omega) (Xw (by omega) (by omega)) J ?_)); refine Ql J J J lInt J (Qj J J J (Qv (hK _ _ (Qz (Qy ?_))))); clear hK K; refine Qx (fun K hK => ?_)
      refine Qq J J J ?_
      rw [e2]; skip; refine QX Yc (From_int (c.getD i 0) b1.1 b1.2) J J J J (Qq J J J (QZ J J J J (QZ J J J J (Qa 1 J J zvFrac J J J (Q8 3 J J J J J szFrac J J (Qj J J J (Qv (hK _ _ (Qz (Qy ?_)))))))))); clear hK K; refine Qx (fun K hK => ?_); refine Qd (n := 3) J J J J J Qg J (Qd (n := 3) J J J J J Qg J (QX goless (less_q (os.getD i 0) (c.getD i 0 : Rat) b0 (SzQ.int63 b1)) J J J J (Qv (hK _ _ (Qz ?_))))); clear hK K; refine Q1 J (fun h4 => ?_) (fun h4 => ?_)
      · refine Qy (Qx fun K hK => ?_); refine Qj J J J (Qv (hK _ _ (Qz (QU (Q5 (QV (QV (Q5 (QV ?_))))))))); clear hK K; refine QY [_] rfl (Qu J QQ) (by rw [hbad h4]; rfl) J
      · refine Q0 (Qz (Qx fun K hK => ?_))
        refine Qk (iadd (by omega) (by omega)) J J J J ?_
        refine Qq J J J (Qv (hK _ _ (Q7 ?_))); clear hK K; refine Xy 1 (Xy 0 ?_); refine Qb (i + 1) (by omega) ⟨by omega, hgood h4⟩ (by exact QJ J ⟨rfl, rfl, rfl, by simp only [Int.natCast_add]; rfl, trivial⟩)
    · have ec : c.getD i 0 = 0 := by rw [List.getD_eq_getElem?_getD, List.getElem?_eq_none (by omega)]; rfl
      refine Q0 (Qz (Qy (Qx fun K hK => ?_))); refine Qq J J J (QX Yc (From_int 0 (by decide) (by decide)) J J J J ?_); refine Qq J J J (QZ J J J J (QZ J J J J (Qa 1 J J zvFrac J J J (Q8 3 J J J J J szFrac J J (Qj J J J (Qv (hK _ _ (Qz (Qy ?_))))))))); clear hK K; refine Qx (fun K hK => ?_); refine Qd (n := 3) J J J J J Qg J (Qd (n := 3) J J J J J Qg J (QX goless (less_q (os.getD i 0) ((0 : Int) : Rat) b0 (SzQ.int63 (by decide))) J J J J ?_)); refine Qv (hK _ _ (Qz ?_)); clear hK K; refine Q1 J (fun h4 => ?_) (fun h4 => ?_)
      · refine Qy (Qx fun K hK => ?_); refine Qj J J J (Qv (hK _ _ (Qz (QU (Q5 (QV (QV (Q5 (QV ?_))))))))); clear hK K; refine QY [_] rfl (Qu J QQ) (by rw [hbad (by rw [ec]; exact h4)]; rfl) J
      · refine Q0 (Qz (Qx fun K hK => ?_))
        refine Qk (iadd (by omega) (by omega)) J J J J ?_
        refine Qq J J J (Qv (hK _ _ (Q7 ?_))); clear hK K; refine Xy 1 (Xy 0 ?_); refine Qb (i + 1) (by omega) ⟨by omega, hgood (by rw [ec]; exact h4)⟩ (by exact QJ J ⟨rfl, rfl, rfl, by simp only [Int.natCast_add]; rfl, trivial⟩)
  · have hi' : i = os.length := by omega
    refine Qm (Qz (Qy (Qx fun K hK => ?_))); refine Qj J J J (Qv (hK _ _ (Qz (QU ?_)))); clear hK K
    refine QY [_] rfl (Qu J QQ) (by
      unfold covQ
      rw [decide_eq_true hle, List.all_eq_true.mpr (fun j hj2 => by rw [decide_eq_false (hj j (by have := List.mem_range.mp hj2; omega))]; rfl)]; rfl) J
set_option maxHeartbeats 4000000 in
theorem rcovers_w (os : List Rat) (c : List Int) (hl : os.length ≤ 64) (hlc : c.length ≤ 64) (ho : ∀ y ∈ os, SzQ y) (hc : ∀ y ∈ c, -9223372036854775808 ≤ y ∧ y ≤ 9223372036854775807) : Ok Tryz.prog 110 [intsC c, ratsC os] (boolC (covQ os c)) := by
  refine Ok.enter Tryz.func110 J _ Tryz.ntmps110 J ?_
  intro S w; refine Qy (Qx fun K hK => ?_); refine Qj J J J (Qv (hK _ _ (Qz (Qy (Qy ?_))))); clear hK K; refine Qx (fun K hK => ?_); refine Qq J J J (Q3 J J sInts.und (List.length_map ..) J (Qq J J J (Q3 J J sFracs.und (List.length_map ..) J (Qk igtr J J J J (Qv (hK _ _ (Qz ?_))))))); clear hK K; refine Q1 J (fun h => ?_) (fun h => ?_)
  · refine Qy (Qx fun K hK => ?_); refine Qj J J J (Qv (hK _ _ (Qz (QU (QV ?_))))); clear hK K; refine QY [_] rfl (Qu J QQ) (by unfold covQ; rw [decide_eq_false (show ¬ c.length ≤ os.length by omega)]; rfl) J
  have hle : c.length ≤ os.length := by omega
  clear h; refine Q0 (Qz (Qy (Qy (Qx fun K hK => ?_)))); refine Qj J J J (Qv (hK _ _ (Qz (Q4 ?_)))); clear hK K
  refine Qn (α := Nat) (fun i => i ≤ os.length ∧ ∀ j, j < i → ¬ cmpQ (os.getD j 0) (c.getD j 0 : Rat) < 0)
    (fun i => [(0, .ct (intsC c)), (1, .ct (ratsC os)), (5, .ct (intC i))]) (fun _ => []) (fun i => os.length - i) 0 ⟨Nat.zero_le _, fun j h => absurd h (Nat.not_lt_zero j)⟩ (by exact QJ J ⟨rfl, rfl, rfl, trivial⟩) ?_
  intro i ⟨hi, hj⟩; dsimp only at hi hj ⊢; refine Qy (Qy (Qx fun K hK => ?_)); refine Qq J J J (Qq J J J (Q3 J J sFracs.und (List.length_map ..) J (Qk ilss J J J J (Qv (hK _ _ (Qz ?_)))))); clear hK K; refine Q1 J (fun h => ?_) (fun h => ?_)
  · have e2 : (i : Int).toNat = i := Int.toNat_natCast i
    have hlt : i < os.length := by omega
    have b0 := ho (os.getD i 0) (Xj hlt)
    have b1 : -9223372036854775808 ≤ c.getD i 0 ∧ c.getD i 0 ≤ 9223372036854775807 := by
      rcases Nat.lt_or_ge i c.length with h | h
      · exact hc _ (Xj h)
      · rw [getD_ge h]; decide
    have hbad : 0 < cmpQ (c.getD i 0 : Rat) (os.getD i 0) → covQ os c = false := fun hgt => by
      unfold covQ; rw [List.all_eq_false.mpr ⟨i, List.mem_range.mpr hlt, by rw [decide_eq_true ((cmpQ_flip _ _).1 hgt)]; decide⟩, Bool.and_false]
    have hgood : ¬ 0 < cmpQ (c.getD i 0 : Rat) (os.getD i 0) → ∀ j, j < i + 1 → ¬ cmpQ (os.getD j 0) (c.getD j 0 : Rat) < 0 := fun hng j hj' => by
      rcases Nat.lt_or_ge j i with h3 | h3
      · exact hj j h3
      · have : j = i := by omega
        rw [this]; exact fun h => hng ((cmpQ_flip _ _).2 h)
    have hW := Z2 (c.getD i 0) b1.1 b1.2; have i1 := SzQ.int63 b1; have hC := rFCompare_q (c.getD i 0 : Rat) (os.getD i 0) (by have := i1.n; omega) (by have := i1.d; omega) (by have := b0.n; omega) (by have := b0.d; omega); generalize hci : c.getD i 0 = ci at *; refine Q0 (Qz (Qy (Q4 (Qy (Qx fun K hK => ?_))))); refine Qj J J J (Qv (hK _ _ (Qz (Qy (Qy ?_))))); clear hK K; refine Qx (fun K hK => ?_); refine Qq J J J (Qq J J J (Q3 J J sInts.und (List.length_map ..) J (Qk ilss J J J J (Qv (hK _ _ (Qz ?_)))))); clear hK K; refine Zq (α := Unit) (fun _ => True) (fun _ => [(0, .ct (intsC c)), (1, .ct (ratsC os)), (5, .ct (intC i)), (6, .ct (intC ci))]) (fun _ => []) (fun _ _ => ?_) (fun KK hN => ?_); rotate_left
    · refine Q1 J (fun h3 => ?_) (fun h3 => ?_)
      · refine Qx (fun K hK => ?_); refine Qq J J J (Qq J J J (Qc J J J sInts (by omega) (Xw (by omega) (by omega)) J ?_)); refine Ql J J J lInt J (Qj J J J (Qv (hK _ _ ?_))); clear hK K; rw [e2, hci]; skip; exact XW hN () trivial (by exact QJ J ⟨rfl, rfl, rfl, rfl, trivial⟩)
      · have ec : ci = 0 := by rw [← hci]; exact getD_ge (by omega)
        subst ec
        refine Q0 ?_
        exact XW hN () trivial (by exact QJ J ⟨rfl, rfl, rfl, rfl, trivial⟩)
    clear hci; refine Qy (Xz mixed 12 (.p 0 (.p 2 (.p 3 (.p 4 (.f 5 (.m 1 (.m 6 (.p 7 (.p 8 (.p 9 (.p 10 (.p 11 .done)))))))))))) (by kernel_rfl) (fun K hK => ?_)); refine Qq J J J (Qq J J J (Qq J J J (Qc J J J sFracs (by omega) (Xl (by omega) (by omega)) J ?_)))
    refine Xk (n := 3) J J J Qg J J ?_
    rw [e2]; skip; refine QX Z9 hW J J J J (QX YK hC J J J J (Qq J J J (QZ J J J J (QZ J J J J (Qj J J J (Qj J J J (Qv (hK _ _ (Qz (Qy ?_)))))))))); clear hK K; refine Qx (fun K hK => ?_); refine Qq J J J (Qk igtr J J J J (Qv (hK _ _ (Qz ?_)))); clear hK K; refine Q1 J (fun h4 => ?_) (fun h4 => ?_)
    · refine Qy (Qx fun K hK => ?_); refine Qj J J J (Qv (hK _ _ (Qz (QU (Q5 (QV (QV (Q5 (QV ?_))))))))); clear hK K; refine QY [_] rfl (Qu J QQ) (by rw [hbad h4]; rfl) J
    · refine Q0 (Qz (Qx fun K hK => ?_)); refine Qq J J J (Qk (iadd (by omega) (by omega)) J J J J ?_); refine Qj J J J (Qv (hK _ _ (Q7 ?_))); clear hK K; refine Qb (i + 1) (by omega) ⟨by omega, hgood h4⟩ (by exact QJ J ⟨rfl, rfl, by simp only [Int.natCast_add]; rfl, trivial⟩)
  · have hi' : i = os.length := by omega
    refine Qm (Qz (Qy (Qx fun K hK => ?_))); refine Qj J J J (Qv (hK _ _ (Qz (QU ?_)))); clear hK K
    refine QY [_] rfl (Qu J QQ) (by
      unfold covQ
      rw [decide_eq_true hle, List.all_eq_true.mpr (fun j hj2 => by rw [decide_eq_false (hj j (by have := List.mem_range.mp hj2; omega))]; rfl)]; rfl) J
section
variable {n : Int} {rs : List Rw} {z : List Rf}
theorem frz_w3 : argW [.ex (.bool false), .ex (.slice none 0 0), .ex (.slice none 0 0)] (frCs frz0) := ⟨Z4, w_nat0, w_nat0, trivial⟩
theorem Combine_range (hrl : rs.length < 4611686018427387904) (hr : ∀ r ∈ rs, r.cs.length < 4611686018427387904) (hv : validR n rs = false) : Ok Tryz.prog 40 [intC n, rowsC rs, rfsC z] (.fr (tupT [ratsC [], fracC frz0, intC 1])) := by
  have hV := Zh n rs hrl hr; rw [hv] at hV
  refine Ok.enter Tryz.func40 J _ Tryz.ntmps40 J ?_
  intro S w; refine Qy (Qx fun K hK => ?_); refine Qj J J J (Qa 0 J J zvFrac J J J (Qj J J J (Qv (hK _ _ (Qz (Qy (Qy ?_))))))); clear hK K; refine Qx (fun K hK => ?_); refine Qq J J J (Qq J J J (QX goLValid hV J J J J (Qe J J J (Qv (hK _ _ (Qz (Xq J (Qy ?_)))))))); clear hK K; refine Qx (fun K hK => ?_); refine Xa J bFrac J .nil J (Qj J J J (Q8 3 J J J J J szFrac J J (Qj J J J (Qv (hK _ _ (Qz (QU (QV ?_)))))))); clear hK K; refine QY [_, _, _] rfl (Xh (w_nil (n := 3)) (Qu J (Xh (w_agg frz_w3) (Qp J J Qg J (Qu J QQ))))) J J
theorem Combine_evid (hrl : rs.length < 4611686018427387904) (hr : ∀ r ∈ rs, r.cs.length < 4611686018427387904) (hv : validR n rs = true) (hzl : z.length ≤ 1000) (hs : ∀ f ∈ z, Sm f) (hb : (decide (z.length = rs.length) && !z.any badm) = false) : Ok Tryz.prog 40 [intC n, rowsC rs, rfsC z] (.fr (tupT [ratsC [], fracC frz0, intC 31])) := by
  have hV := Zh n rs hrl hr; rw [hv] at hV; have hM := multipliers_raw rs z hrl hzl hs; rw [hb] at hM
  refine Ok.enter Tryz.func40 J _ Tryz.ntmps40 J ?_
  intro S w; refine Qy (Qx fun K hK => ?_); refine Qj J J J (Qa 0 J J zvFrac J J J (Qj J J J (Qv (hK _ _ (Qz (Qy (Qy ?_))))))); clear hK K; refine Qx (fun K hK => ?_); refine Qq J J J (Qq J J J (QX goLValid hV J J J J (Qe J J J (Qv (hK _ _ (Qz (Qr J (Q0 (Qz (Qy (Qy ?_))))))))))); clear hK K; refine Qx (fun K hK => ?_); refine Qq J J J (Qq J J J (QX gomultipliers hM J J J J (Qe J J J (Qv (hK _ _ (Qz (Xq J (Qy ?_)))))))); clear hK K; refine Qx (fun K hK => ?_); refine Xa J bFrac J .nil J (Qj J J J (Q8 3 J J J J J szFrac J J (Qj J J J (Qv (hK _ _ (Qz (QU (QV ?_)))))))); clear hK K; refine QY [_, _, _] rfl (Xh (w_nil (n := 3)) (Qu J (Xh (w_agg frz_w3) (Qp J J Qg J (Qu J QQ))))) J J
theorem rCombine_range (hrl : rs.length < 4611686018427387904) (hr : ∀ r ∈ rs, r.cs.length < 4611686018427387904) (hv : validR n rs = false) : Ok Tryz.prog 47 [intC n, rowsC rs, rfsC z] (.fr (tupT [ratsC [], fracC frz0, intC 1])) := by
  have hV := Zc n rs hrl hr; rw [hv] at hV
  refine Ok.enter Tryz.func47 J _ Tryz.ntmps47 J ?_
  intro S w; refine Qy (Qx fun K hK => ?_); refine Qj J J J (Qa 0 J J zvFrac J J J (Qj J J J (Qv (hK _ _ (Qz (Qy (Qy ?_))))))); clear hK K; refine Qx (fun K hK => ?_); refine Qq J J J (Qq J J J (QX gorLValid hV J J J J (Qe J J J (Qv (hK _ _ (Qz (Xq J (Qy ?_)))))))); clear hK K; refine Qx (fun K hK => ?_); refine Xa J bFrac J .nil J (Qj J J J (Q8 3 J J J J J szFrac J J (Qj J J J (Qv (hK _ _ (Qz (QU (QV ?_)))))))); clear hK K; refine QY [_, _, _] rfl (Xh (w_nil (n := 3)) (Qu J (Xh (w_agg frz_w3) (Qp J J Qg J (Qu J QQ))))) J J
theorem rCombine_evid (hrl : rs.length < 4611686018427387904) (hr : ∀ r ∈ rs, r.cs.length < 4611686018427387904) (hv : validR n rs = true) (hzl : z.length ≤ 1000) (hs : ∀ f ∈ z, Sm f) (hb : (decide (z.length = rs.length) && !z.any badm) = false) : Ok Tryz.prog 47 [intC n, rowsC rs, rfsC z] (.fr (tupT [ratsC [], fracC frz0, intC 31])) := by
  have hV := Zc n rs hrl hr; rw [hv] at hV; have hP := Point_raw rs.length z hzl hs; rw [show decide ((z.length : Int) = (rs.length : Int)) = decide (z.length = rs.length) from decide_eq_decide.2 (by omega), hb] at hP
  refine Ok.enter Tryz.func47 J _ Tryz.ntmps47 J ?_
  intro S w; refine Qy (Qx fun K hK => ?_); refine Qj J J J (Qa 0 J J zvFrac J J J (Qj J J J (Qv (hK _ _ (Qz (Qy (Qy ?_))))))); clear hK K; refine Qx (fun K hK => ?_); refine Qq J J J (Qq J J J (QX gorLValid hV J J J J (Qe J J J (Qv (hK _ _ (Qz (Qr J (Q0 (Qz (Qy (Qy ?_))))))))))); clear hK K; refine Qx (fun K hK => ?_); refine Qq J J J (Q3 J J sRows.und (List.length_map ..) J (Qq J J J (QX goPoint hP J J J J (Qe J J J (Qv (hK _ _ (Qz (Xq J (Qy ?_))))))))); clear hK K; refine Qx (fun K hK => ?_); refine Xa J bFrac J .nil J (Qj J J J (Q8 3 J J J J J szFrac J J (Qj J J J (Qv (hK _ _ (Qz (QU (QV ?_)))))))); clear hK K; refine QY [_, _, _] rfl (Xh (w_nil (n := 3)) (Qu J (Xh (w_agg frz_w3) (Qp J J Qg J (Qu J QQ))))) J J
variable {e : Int}
theorem Bounds_err (c : List Int) (mo : Rf) (he : e ≠ 0) (h1 : Ok Tryz.prog 40 [intC n, rowsC rs, rfsC z] (.fr (tupT [ratsC [], fracC frz0, intC e]))) : Ok Tryz.prog 41 [intC n, rowsC rs, intsC c, rfsC z, .fr (aggT (rfCs mo))] (boolC false) := by
  refine Ok.enter Tryz.func41 J _ Tryz.ntmps41 J ?_
  intro S w; refine Qy (Qx fun K hK => ?_); refine Qh 0 J J J J J J J (Qj J J J (Qv (hK _ _ (Qz (Qy ?_))))); clear hK K; refine Qx (fun K hK => ?_); refine Qq J J J (Qq J J J (Qq J J J (QX goCombine h1 J J J J (Qq J J J (QZ J J J J (QZ J J J J (QZ J J J J (Qa 1 J J zvFrac J J J (Qj J J J (Q8 3 J J J J J szFrac J J (Qj J J J (Qv (hK _ _ (Qz (Qy ?_))))))))))))))); clear hK K; refine Qx (fun K hK => ?_); refine Qq J J J (Qk ieql J J J J (Qq J J J (Qi 24 J (fun h => absurd h he) (fun _ => ?_)))); refine Qw J J J (Qw J J J (Q2 J J J J (Qq J J J (Qw J J J (Qw J J J (Qw J J J (Q2 J J J J (Qq J J J (Qw J J J (Qw J J J (Qw J J J (Qw J J J (Q2 J J J J (Qj J J J (Qv (hK _ _ (Qz (QU ?_)))))))))))))))))); clear hK K; refine QY [_] rfl (Qu J QQ) J J
theorem rBounds_err (c : List Int) (mo : Rf) (he : e ≠ 0) (h1 : Ok Tryz.prog 47 [intC n, rowsC rs, rfsC z] (.fr (tupT [ratsC [], fracC frz0, intC e]))) : Ok Tryz.prog 54 [intC n, rowsC rs, intsC c, rfsC z, .fr (aggT (rfCs mo))] (boolC false) := by
  refine Ok.enter Tryz.func54 J _ Tryz.ntmps54 J ?_
  intro S w; refine Qy (Qx fun K hK => ?_); refine Qh 0 J J J J J J J (Qj J J J (Qv (hK _ _ (Qz (Qy ?_))))); clear hK K; refine Qx (fun K hK => ?_); refine Qq J J J (Qq J J J (Qq J J J (QX gorCombine h1 J J J J (Qq J J J (QZ J J J J (QZ J J J J (QZ J J J J (Qa 1 J J zvFrac J J J (Qj J J J (Q8 3 J J J J J szFrac J J (Qj J J J (Qv (hK _ _ (Qz (Qy (Qy ?_)))))))))))))))); clear hK K; refine Qx (fun K hK => ?_); refine Qq J J J (Qk ineq J J J J (Qq J J J (Qi 26 J (fun _ => ?_) (fun h => absurd h (by simpa using he))))); refine Qw J J J (Qw J J J (Qw J J J (Qw J J J (Q6 J J J J (Qq J J J (Qw J J J (Qw J J J (Qw J J J (Q6 J J J J (Qv (hK _ _ (Qz (Xq J (Qy ?_)))))))))))))); clear hK K; refine Qx (fun K hK => ?_); refine Qj J J J (Qv (hK _ _ (Qz (QU (QV ?_))))); clear hK K; refine QY [_] rfl (Qu J QQ) J J
theorem Refutes_err (he : e ≠ 0) (h1 : Ok Tryz.prog 40 [intC n, rowsC rs, rfsC z] (.fr (tupT [ratsC [], fracC frz0, intC e]))) : Ok Tryz.prog 49 [intC n, rowsC rs, rfsC z] (boolC false) := by
  refine Ok.enter Tryz.func49 J _ Tryz.ntmps49 J ?_
  intro S w; refine Qy (Qx fun K hK => ?_); refine Qj J J J (Qv (hK _ _ (Qz (Qy ?_)))); clear hK K; refine Qx (fun K hK => ?_); refine Qq J J J (Qq J J J (Qq J J J (QX goCombine h1 J J J J (Qq J J J (QZ J J J J (QZ J J J J (QZ J J J J (Qa 0 J J zvFrac J J J (Qj J J J (Q8 3 J J J J J szFrac J J (Qj J J J (Qv (hK _ _ (Qz (Qy ?_))))))))))))))); clear hK K; refine Qx (fun K hK => ?_); refine Qq J J J (Qk ieql J J J J (Qq J J J (Qi 20 J (fun h => absurd h he) (fun _ => ?_)))); refine Qw J J J (Qw J J J (Q2 J J J J (Qq J J J (Qw J J J (Qw J J J (Q2 J J J J (Qj J J J (Qv (hK _ _ (Qz (QU ?_))))))))))); clear hK K; refine QY [_] rfl (Qu J QQ) J J
theorem rRefutes_err (he : e ≠ 0) (h1 : Ok Tryz.prog 47 [intC n, rowsC rs, rfsC z] (.fr (tupT [ratsC [], fracC frz0, intC e]))) : Ok Tryz.prog 50 [intC n, rowsC rs, rfsC z] (boolC false) := by
  refine Ok.enter Tryz.func50 J _ Tryz.ntmps50 J ?_
  intro S w; refine Qy (Qx fun K hK => ?_); refine Qj J J J (Qv (hK _ _ (Qz (Qy ?_)))); clear hK K; refine Qx (fun K hK => ?_); refine Qq J J J (Qq J J J (Qq J J J (QX gorCombine h1 J J J J (Qq J J J (QZ J J J J (QZ J J J J (QZ J J J J (Qa 0 J J zvFrac J J J (Qj J J J (Q8 3 J J J J J szFrac J J (Qj J J J (Qv (hK _ _ (Qz (Qy ?_))))))))))))))); clear hK K; refine Qx (fun K hK => ?_); refine Qq J J J (Qk ieql J J J J (Qq J J J (Qi 20 J (fun h => absurd h he) (fun _ => ?_)))); refine Qw J J J (Qw J J J (Q2 J J J J (Qq J J J (Qw J J J (Qw J J J (Qw J J J (Q2 J J J J (Qj J J J (Qv (hK _ _ (Qz (QU ?_)))))))))))); clear hK K; refine QY [_] rfl (Qu J QQ) J J
theorem gorCeiling : InGo Tryz.prog 53 := InGo.of Tryz.func53 (by kernel_rfl) (by kernel_rfl)
theorem Ceiling_err (c : List Int) (he : e ≠ 0) (h1 : Ok Tryz.prog 40 [intC n, rowsC rs, rfsC z] (.fr (tupT [ratsC [], fracC frz0, intC e]))) : Ok Tryz.prog 42 [intC n, rowsC rs, intsC c, rfsC z] (.fr (tupT [intC 0, boolC false])) := by
  refine Ok.enter Tryz.func42 J _ Tryz.ntmps42 J ?_
  intro S w; refine Qy (Qx fun K hK => ?_); refine Qj J J J (Qj J J J (Qv (hK _ _ (Qz (Qy ?_))))); clear hK K; refine Qx (fun K hK => ?_); refine Qq J J J (Qq J J J (Qq J J J (QX goCombine h1 J J J J (Qq J J J (QZ J J J J (QZ J J J J (QZ J J J J (Qa 0 J J zvFrac J J J (Qj J J J (Q8 3 J J J J J szFrac J J (Qj J J J (Qv (hK _ _ (Qz (Qy (Qy ?_)))))))))))))))); clear hK K; refine Qx (fun K hK => ?_); refine Qq J J J (Qk ineq J J J J (Qq J J J (Qi 24 J (fun _ => ?_) (fun h => absurd h (by simpa using he))))); refine Qw J J J (Qw J J J (Qw J J J (Qw J J J (Qw J J J (Qw J J J (Qw J J J (Q6 J J J J (Qv (hK _ _ (Qz (Xq J (Qy ?_)))))))))))); clear hK K; refine Qx (fun K hK => ?_); refine Qj J J J (Qj J J J (Qv (hK _ _ (Qz (QU (QV ?_)))))); clear hK K; refine QY [_, _] rfl (Qu J (Qu J QQ)) J J
theorem rCeiling_err (c : List Int) (he : e ≠ 0) (h1 : Ok Tryz.prog 47 [intC n, rowsC rs, rfsC z] (.fr (tupT [ratsC [], fracC frz0, intC e]))) : Ok Tryz.prog 53 [intC n, rowsC rs, intsC c, rfsC z] (.fr (tupT [intC 0, boolC false])) := by
  refine Ok.enter Tryz.func53 J _ Tryz.ntmps53 J ?_
  intro S w; refine Qy (Qx fun K hK => ?_); refine Qj J J J (Qj J J J (Qv (hK _ _ (Qz (Qy ?_))))); clear hK K; refine Qx (fun K hK => ?_); refine Qq J J J (Qq J J J (Qq J J J (QX gorCombine h1 J J J J (Qq J J J (QZ J J J J (QZ J J J J (QZ J J J J (Qa 0 J J zvFrac J J J (Qj J J J (Q8 3 J J J J J szFrac J J (Qj J J J (Qv (hK _ _ (Qz (Qy (Qy ?_)))))))))))))))); clear hK K; refine Qx (fun K hK => ?_); refine Qq J J J (Qk ineq J J J J (Qq J J J (Qi 24 J (fun _ => ?_) (fun h => absurd h (by simpa using he))))); refine Qw J J J (Qw J J J (Qw J J J (Qw J J J (Q6 J J J J (Qv (hK _ _ (Qz (Xq J (Qy ?_))))))))); clear hK K; refine Qx (fun K hK => ?_); refine Qj J J J (Qj J J J (Qv (hK _ _ (Qz (QU (QV ?_)))))); clear hK K; refine QY [_, _] rfl (Qu J (Qu J QQ)) J J
theorem gorPrune : InGo Tryz.prog 52 := InGo.of Tryz.func52 (by kernel_rfl) (by kernel_rfl)
theorem Prune_bad (hrl : rs.length < 4611686018427387904) (hr : ∀ r ∈ rs, r.cs.length < 4611686018427387904) (hzl : z.length ≤ 1000) (hs : ∀ f ∈ z, Sm f) (hb : (validR n rs && (decide (z.length = rs.length) && !z.any badm)) = false) : Ok Tryz.prog 51 [intC n, rowsC rs, rfsC z] (intsC []) := by
  have hV := Zh n rs hrl hr; have hM := multipliers_raw rs z hrl hzl hs
  cases hv : validR n rs with
  | false =>
    rw [hv] at hV
    refine Ok.enter Tryz.func51 J _ Tryz.ntmps51 J ?_
    intro S w; refine Qy (Qx fun K hK => ?_); refine Qj J J J (Qv (hK _ _ (Qz (Qy (Qy ?_))))); clear hK K; refine Qx (fun K hK => ?_); refine Qq J J J (Qq J J J (QX goLValid hV J J J J (Qe J J J (Qq J J J (Qw J J J (Qw J J J (Qw J J J (Qw J J J (Q6 J J J J (Qv (hK _ _ (Qz (Xq J (Qy ?_)))))))))))))); clear hK K; refine Qx (fun K hK => ?_); refine Qj J J J (Qv (hK _ _ (Qz (QU (QV ?_))))); clear hK K; refine QY [_] rfl (Xh w_nil (Qu J QQ)) J J
  | true =>
    rw [hv] at hV; rw [hv, Bool.true_and] at hb; rw [hb] at hM
    refine Ok.enter Tryz.func51 J _ Tryz.ntmps51 J ?_
    intro S w; refine Qy (Qx fun K hK => ?_); refine Qj J J J (Qv (hK _ _ (Qz (Qy (Qy ?_))))); clear hK K; refine Qx (fun K hK => ?_); refine Qq J J J (Qq J J J (QX goLValid hV J J J J (Qe J J J (Qq J J J (Qq J J J (Qq J J J (QX gomultipliers hM J J J J (Qe J J J (Q2 J J J J (Qv (hK _ _ (Qz (Xq J (Qy ?_)))))))))))))); clear hK K; refine Qx (fun K hK => ?_); refine Qj J J J (Qv (hK _ _ (Qz (QU (QV ?_))))); clear hK K; refine QY [_] rfl (Xh w_nil (Qu J QQ)) J J
theorem rPrune_bad (hrl : rs.length < 4611686018427387904) (hr : ∀ r ∈ rs, r.cs.length < 4611686018427387904) (hzl : z.length ≤ 1000) (hs : ∀ f ∈ z, Sm f) (hb : (validR n rs && (decide (z.length = rs.length) && !z.any badm)) = false) : Ok Tryz.prog 52 [intC n, rowsC rs, rfsC z] (intsC []) := by
  have hV := Zc n rs hrl hr; have hP := Point_raw rs.length z hzl hs; rw [show decide ((z.length : Int) = (rs.length : Int)) = decide (z.length = rs.length) from decide_eq_decide.2 (by omega)] at hP
  cases hv : validR n rs with
  | false =>
    rw [hv] at hV
    refine Ok.enter Tryz.func52 J _ Tryz.ntmps52 J ?_
    intro S w; refine Qy (Qx fun K hK => ?_); refine Qj J J J (Qv (hK _ _ (Qz (Qy (Qy ?_))))); clear hK K; refine Qx (fun K hK => ?_); refine Qq J J J (Qq J J J (QX gorLValid hV J J J J (Qe J J J (Qq J J J (Qw J J J (Qw J J J (Qw J J J (Qw J J J (Qw J J J (Q6 J J J J (Qv (hK _ _ (Qz (Xq J (Qy ?_))))))))))))))); clear hK K; refine Qx (fun K hK => ?_); refine Qj J J J (Qv (hK _ _ (Qz (QU (QV ?_))))); clear hK K; refine QY [_] rfl (Xh w_nil (Qu J QQ)) J J
  | true =>
    rw [hv] at hV; rw [hv, Bool.true_and] at hb; rw [hb] at hP
    refine Ok.enter Tryz.func52 J _ Tryz.ntmps52 J ?_
    intro S w; refine Qy (Qx fun K hK => ?_); refine Qj J J J (Qv (hK _ _ (Qz (Qy (Qy ?_))))); clear hK K; refine Qx (fun K hK => ?_); refine Qq J J J (Qq J J J (QX gorLValid hV J J J J (Qe J J J (Qq J J J (Qq J J J (Q3 J J sRows.und (List.length_map ..) J (Qq J J J (QX goPoint hP J J J J (Qe J J J (Q2 J J J J (Qv (hK _ _ (Qz (Xq J (Qy ?_))))))))))))))); clear hK K; refine Qx (fun K hK => ?_); refine Qj J J J (Qv (hK _ _ (Qz (QU (QV ?_))))); clear hK K; refine QY [_] rfl (Xh w_nil (Qu J QQ)) J J
end
def intV (n : Nat) : Int := if n ≤ 4611686018427387904 then n else 0
def intE (n : Nat) : Int := if n ≤ 4611686018427387904 then 0 else 1
set_option maxHeartbeats 4000000 in
theorem Int_any (n : Nat) (hl : (limbs n).length ≤ 200) : Ok Tryz.prog 164 [natC n] (.fr (tupT [intC (intV n), intC (intE n)])) := by
  by_cases hn : n ≤ 4611686018427387904
  · have := Int_ok n hn; unfold intV intE; rw [if_pos hn, if_pos hn]; exact this
  have hv0 : intV n = 0 := if_neg hn; have he0 : intE n = 1 := if_neg hn
  refine Ok.enter Tryz.func164 J _ Tryz.ntmps164 J ?_
  intro S w; refine Qy (Qx fun K hK => ?_); refine Qj J J J (Qj J J J (Qv (hK _ _ (Qz (Qy ?_))))); clear hK K; refine Qx (fun K hK => ?_); refine Qj J J J (Qv (hK _ _ (Qz (Qy (Qy ?_))))); clear hK K; refine Qx (fun K hK => ?_); refine Qq J J J (Q3 J J sNat.und (List.length_map ..) J (Qk (isub (by omega) (by omega)) J J J J ?_)); refine Qj J J J (Qv (hK _ _ (Qz (Q4 ?_)))); clear hK K
  refine Qn (α := Nat × Int) (fun s => s.1 ≤ (limbs n).length ∧ 0 ≤ s.2 ∧ s.2 ≤ 4611686018427387904 ∧ s.2 * BB ^ s.1 + pre (limbs n) s.1 = n)
    (fun s => [(0, .ct (natC n)), (4, .ct (intC s.2)), (5, .ct (intC ((s.1 : Int) - 1)))]) (fun _ => []) (fun s => s.1) ((limbs n).length, 0) ⟨Nat.le_refl _, Int.le_refl _, by dsimp only; decide, by dsimp only; rw [Zp]; simp⟩ (by exact QJ J ⟨rfl, rfl, rfl, trivial⟩) ?_
  rintro ⟨q, v⟩ ⟨hq, hv, hvm, hvq⟩
  dsimp only at hq hv hvm hvq ⊢; refine Qy (Qy (Qx fun K hK => ?_)); refine Qq J J J (Qk igeq J J J J (Qv (hK _ _ (Qz ?_)))); clear hK K; refine Q1 J (fun h => ?_) (fun h => ?_)
  · obtain ⟨i, rfl⟩ : ∃ i, q = i + 1 := ⟨q - 1, by omega⟩
    have e1 : (((i + 1 : Nat) : Int) - 1) = (i : Int) := by omega
    have e2 : (i : Int).toNat = i := Int.toNat_natCast i; have bx := (XQ n).get i; simp only [BB] at bx; rw [XY, Int.pow_succ] at hvq; rw [e1]; refine Q0 (Qz (Qy (Q4 (Qy (Qy (Qx fun K hK => ?_)))))); refine Qq J J J (Qq J J J (Qq J J J (Qc J J J sNat (by omega) (Xw (by omega) (by omega)) J ?_)))
    refine Ql J J J lInt J ?_
    rw [e2]
    refine Qk (isub (by omega) (by omega)) J J J J ?_
    refine Qk ishr30 J J J J (Qk igtr J J J J (Qv (hK _ _ (Qz ?_)))); clear hK K; refine Q1 J (fun h2 => ?_) (fun h2 => ?_)
    · refine Qy (Qx fun K hK => ?_); refine Qj J J J (Qj J J J (Qv (hK _ _ (Qz (QU (QV (Q5 (QV (QV (Q5 (QV ?_))))))))))); clear hK K; refine QY [_, _] rfl (Qu J (Qu J QQ)) (by rw [hv0, he0]; rfl) J
    have key : v * 1073741824 + (limbs n).getD i 0 ≤ 4611686018427387904 := by omega
    clear h2; refine Q0 (Qz (Qx fun K hK => ?_)); refine Qq J J J (Qk (ishl30 (by omega) (by omega)) J J J J ?_); refine Qq J J J (Qq J J J (Qc J J J sNat (by omega) (Xw (by omega) (by omega)) J ?_))
    refine Ql J J J lInt J ?_
    rw [e2]
    refine Qk (ior30 (by omega) (by omega) (by omega) (by omega)) J J J J ?_
    refine Qj J J J (Qv (hK _ _ (Qz ?_))); clear hK K; refine Qx (fun K hK => ?_); refine Qq J J J (Qk (isub (by omega) (by omega)) J J J J ?_); refine Qj J J J (Qv (hK _ _ (Q7 ?_))); clear hK K; refine Qb (i, v * 1073741824 + (limbs n).getD i 0) (by dsimp only; omega) ⟨by dsimp only; omega, by dsimp only; omega, by dsimp only; omega, ?_⟩ (by exact QJ J ⟨rfl, rfl, rfl, trivial⟩); dsimp only; rw [← hvq]; simp only [BB]; grind
  · have hq0 : q = 0 := by omega
    subst hq0
    have e : v = n := by rw [Xr] at hvq; simpa using hvq
    exact absurd hvm (by omega)
set_option maxHeartbeats 2000000 in
theorem round_any (f : Fr) (up : Bool) (h1 : (limbs f.num).length ≤ 100) (h2 : 0 < f.den) (h3 : (limbs f.den).length ≤ 100) : Ok Tryz.prog 163 [fracC f, boolC up] (.fr (tupT [natC (rnd f.num f.den up), intC 0])) := by
  have hl : (limbs (f.num / f.den)).length ≤ 100 := Nat.le_trans (Xu (Nat.div_le_self ..)) h1
  refine Ok.enter Tryz.func163 J _ Tryz.ntmps163 J ?_
  intro S w; refine Qy (Qx fun K hK => ?_); refine Qh 0 J J J J J J J (Qj J J J (Qj J J J (Qv (hK _ _ (Qz (Qy ?_)))))); clear hK K; refine Qx (fun K hK => ?_); refine QW J J J fF1 J (QK J J J J J lNat J (QW J J J fF2 J (QK J J J J J lNat J (QX goDivMod (DivMod_ok f.num f.den h2 (by omega) (by omega)) J J J J ?_)))); refine Qq J J J (QZ J J J J (QZ J J J J (QZ J J J J (Qj J J J (Qj J J J (Qj J J J (Qv (hK _ _ (Qz (Qy (Qy ?_))))))))))); clear hK K; refine Qx (fun K hK => ?_); refine Qq J J J (Qk ieql J J J J (Qq J J J (Qq J J J (Q6 J J J J (Qq J J J (Xe 23 J (fun hu => ?_) (fun hu => ?_)))))))
  · refine Qq J J J (Q3 J J sNat.und (List.length_map ..) J (Qk igtr J J J J (Q6 J J J J (Qv (hK _ _ (Qz ?_)))))); clear hK K; refine Q1 J (fun h => ?_) (fun h => ?_)
    · have hr : f.num % f.den ≠ 0 := limbs_len_pos.mp (by omega); refine Qx (fun K hK => ?_); refine Qq J J J (XZ J J sNat J J J (QX goAdd (Add_list (limbs (f.num / f.den)) [1] (by omega) (by simp) (XQ _) (OKL.cons (by decide) OKL.nil)) J J J J ?_)); rw [X7, show val [1] = 1 by decide, show (((f.num / f.den : Nat) : Int) + 1).toNat = f.num / f.den + 1 by generalize f.num / f.den = z; omega]; refine Qq J J J (QZ J J J J (QZ J J J J (Qj J J J (Qj J J J (Qv (hK _ _ (Qz (Qy ?_)))))))); clear hK K; refine Qx (fun K hK => ?_); refine Qq J J J (Qq J J J (Qj J J J (Qj J J J (Qv (hK _ _ (Qz (QU ?_))))))); clear hK K; refine QY [_, _] rfl (Qu J (Qu J QQ)) (by unfold rnd; rw [if_pos ⟨hu, hr⟩]; rfl) J
    · have hr : ¬ (f.num % f.den ≠ 0) := fun h' => h (by have := limbs_len_pos.mpr h'; omega)
      refine Q0 (Qz (Qy (Qx fun K hK => ?_))); refine Qq J J J (Qq J J J (Qj J J J (Qj J J J (Qv (hK _ _ (Qz (QU ?_))))))); clear hK K; refine QY [_, _] rfl (Qu J (Qu J QQ)) (by unfold rnd; rw [if_neg (fun h' => hr h'.2)]; rfl) J
  · refine Qw J J J (Qw J J J (Qw J J J (Q2 J J J J (Qv (hK _ _ (Qz (Qr J (Q0 (Qz (Qy ?_)))))))))); clear hK K; refine Qx (fun K hK => ?_); refine Qq J J J (Qq J J J (Qj J J J (Qj J J J (Qv (hK _ _ (Qz (QU ?_))))))); clear hK K; refine QY [_, _] rfl (Qu J (Qu J QQ)) (by unfold rnd; rw [if_neg (fun h' => by rw [hu] at h'; cases h'.1)]; rfl) J
theorem rnd_len {f : Fr} (up : Bool) (h1 : (limbs f.num).length ≤ 100) : (limbs (rnd f.num f.den up)).length ≤ 101 := by
  have hl : rnd f.num f.den up ≤ f.num + 1 := by
    have := Nat.div_le_self f.num f.den
    unfold rnd; split <;> omega
  have h2 : f.num < 1073741824 ^ 100 := XU h1
  have h3 : 1073741824 ^ 100 + 1 ≤ 1073741824 ^ 101 := by decide
  exact Qf (by omega)
def flV (f : Fr) : Int := if rnd f.num f.den f.neg ≤ 4611686018427387904 then sg f.neg (rnd f.num f.den f.neg) else 0
def flE (f : Fr) : Int := intE (rnd f.num f.den f.neg)
set_option maxHeartbeats 2000000 in
theorem FFloor_any (f : Fr) (h1 : (limbs f.num).length ≤ 100) (h2 : 0 < f.den) (h3 : (limbs f.den).length ≤ 100) : Ok Tryz.prog 102 [fracC f] (.fr (tupT [intC (flV f), intC (flE f)])) := by
  have hI := Int_any (rnd f.num f.den f.neg) (by have := rnd_len (f := f) f.neg h1; omega); have hR := round_any f f.neg h1 h2 h3
  have hv : flV f = if rnd f.num f.den f.neg ≤ 4611686018427387904 then sg f.neg (rnd f.num f.den f.neg) else 0 := rfl
  have he : flE f = intE (rnd f.num f.den f.neg) := rfl
  have hW : Ok Tryz.prog 146 [fracC f, boolC false] (.fr (tupT [intC (flV f), intC (flE f)])) := by
    generalize rnd f.num f.den f.neg = r at *; unfold intV intE at hI
    refine Ok.enter Tryz.func146 J _ Tryz.ntmps146 J ?_
    intro S w; refine Qy (Qx fun K hK => ?_); refine Qh 0 J J J J J J J (Qj J J J (Qj J J J (Qv (hK _ _ (Qz (Qy ?_)))))); clear hK K; refine Qx (fun K hK => ?_); refine Qd (n := 3) J J J J J Qg J (Qq J J J (QW J J J fF0 J (QK J J J J J lBool J (YX J J J uBool J ?_)))); rw [dne, Bool.false_bne]; skip; refine QX goround hR J J J J (Qq J J J (QZ J J J J (QZ J J J J (Qj J J J (Qj J J J (Qv (hK _ _ (Qz (Qy (Qy ?_)))))))))); clear hK K; refine Qx (fun K hK => ?_); refine Qq J J J (Qk ineq J J J J (Qv (hK _ _ (Qz (Qr J (Q0 (Qz (Qy ?_)))))))); clear hK K; refine Qx (fun K hK => ?_)
    refine Qq J J J ?_
    by_cases hr : r ≤ 4611686018427387904
    · rw [if_pos hr, if_pos hr] at hI; rw [if_pos hr] at hv; refine QX goInt hI J J J J (Qq J J J (QZ J J J J (QZ J J J J (Qj J J J (Qj J J J (Qv (hK _ _ (Qz (Qy (Qy ?_)))))))))); clear hK K; refine Qx (fun K hK => ?_); refine Qq J J J (Qk ineq J J J J (Qv (hK _ _ (Qz (Qr J (Q0 (Qz (Qy (Qy ?_))))))))); clear hK K; refine Qx (fun K hK => ?_); refine QW J J J fF0 J (QK J J J J J lBool J (Qv (hK _ _ (Qz ?_)))); clear hK K; refine Zz J (fun hn => ?_) (fun hn => ?_)
      · refine Qx (fun K hK => ?_); refine Qq J J J (Ops.ineg J J (by omega) (by omega) J ?_); refine Qj J J J (Qv (hK _ _ (Qz (Qy ?_)))); clear hK K; refine Qx (fun K hK => ?_); refine Qq J J J (Qj J J J (Qj J J J (Qv (hK _ _ (Qz (QU ?_)))))); clear hK K; refine QY [_, _] rfl (Qu J (Qu J QQ)) (by rw [hv, he]; unfold intE sg; rw [hn, if_pos hr]; rfl) J
      · refine Q0 (Qz (Qy (Qx fun K hK => ?_))); refine Qq J J J (Qj J J J (Qj J J J (Qv (hK _ _ (Qz (QU ?_)))))); clear hK K; refine QY [_, _] rfl (Qu J (Qu J QQ)) (by rw [hv, he]; unfold intE sg; rw [hn, if_pos hr]; rfl) J
    · rw [if_neg hr, if_neg hr] at hI; rw [if_neg hr] at hv; refine QX goInt hI J J J J (Qq J J J (QZ J J J J (QZ J J J J (Qj J J J (Qj J J J (Qv (hK _ _ (Qz (Qy (Qy ?_)))))))))); clear hK K; refine Qx (fun K hK => ?_); refine Qq J J J (Qk ineq J J J J (Qv (hK _ _ (Qz (Xq J (Qy ?_)))))); clear hK K; refine Qx (fun K hK => ?_); refine Qj J J J (Qj J J J (Qv (hK _ _ (Qz (QU (QV ?_)))))); clear hK K; refine QY [_, _] rfl (Qu J (Qu J QQ)) (by rw [hv, he]; unfold intE; rw [if_neg hr]; rfl) J
  refine Ok.enter Tryz.func102 J _ Tryz.ntmps102 J ?_
  intro S w; refine Qy (Qx fun K hK => ?_); refine Qh 0 J J J J J J J (Qj J J J (Qj J J J (Qv (hK _ _ (Qz (Qy ?_)))))); clear hK K; refine Qx (fun K hK => ?_); refine Qd (n := 3) J J J J J Qg J (QX goFwhole hW J J J J (QZ J J J J (QZ J J J J (Qj J J J (Qj J J J (Qv (hK _ _ (Qz (QU ?_))))))))); clear hK K; refine QY [_, _] rfl (Qu J (Qu J QQ)) J J
set_option maxHeartbeats 2000000 in
theorem rInt_any (n : Nat) (hl : (limbs n).length ≤ 200) : Ok Tryz.prog 105 [natC n] (.fr (tupT [intC (intV n), intC (intE n)])) := by
  by_cases hn : n ≤ 4611686018427387904
  · have := rInt_ok n hn; unfold intV intE; rw [if_pos hn, if_pos hn]; exact this
  have hv0 : intV n = 0 := if_neg hn; have he0 : intE n = 1 := if_neg hn; obtain ⟨M, hM⟩ : ∃ M : Nat, M = 4611686018427387904 := ⟨_, rfl⟩; have h62 : (limbs M).length ≤ 3 := Qf (k := 3) (by omega)
  have hW : Ok Tryz.prog 147 [wordC 4611686018427387904] (natC M) := by
    have := rWord_ok M (by omega); rw [show ((M : Nat) : Int) = 4611686018427387904 by omega] at this; exact this
  refine Ok.enter Tryz.func105 J _ Tryz.ntmps105 J ?_
  intro S w; refine Qy (Qx fun K hK => ?_); refine Qj J J J (Qj J J J (Qv (hK _ _ (Qz (Qy (Qy ?_)))))); clear hK K; refine Qx (fun K hK => ?_); refine Qq J J J (QX gorWord hW J J J J (QX gorCompare (rCompare_ok n M (by omega) (by omega)) J J J J ?_)); refine Qk igtr J J J J (Qv (hK _ _ (Qz ?_))); clear hK K; refine Q1 J (fun h => ?_) (fun h => ?_)
  · refine Qy (Qx fun K hK => ?_); refine Qj J J J (Qj J J J (Qv (hK _ _ (Qz (QU (QV ?_)))))); clear hK K; refine QY [_, _] rfl (Qu J (Qu J QQ)) (by rw [hv0, he0]; rfl) J
  · rw [cmpI_pos] at h; omega
set_option maxHeartbeats 4000000 in
theorem rFloor_any (f : Fr) (h1 : (limbs f.num).length ≤ 100) (h2 : 0 < f.den) (h3 : (limbs f.den).length ≤ 100) : Ok Tryz.prog 43 [fracC f] (.fr (tupT [intC (flV f), intC (flE f)])) := by
  have hl : (limbs (f.num / f.den)).length ≤ 100 := Nat.le_trans (Xu (Nat.div_le_self ..)) h1; have hI := rInt_any (rnd f.num f.den f.neg) (by have := rnd_len (f := f) f.neg h1; omega)
  have hv : flV f = if rnd f.num f.den f.neg ≤ 4611686018427387904 then sg f.neg (rnd f.num f.den f.neg) else 0 := rfl
  have he : flE f = intE (rnd f.num f.den f.neg) := rfl
  have hrn : rnd f.num f.den f.neg = if f.neg = true ∧ f.num % f.den ≠ 0 then f.num / f.den + 1 else f.num / f.den := rfl
  have e11 : natC 1 = .fr (sliceT 1 [[intC 1]]) := by show intsC (limbs 1) = _; rw [Y7 (by decide) (by decide)]; rfl
  have l1 : (limbs 1).length = 1 := by rw [Y7 (by decide) (by decide)]; rfl
  generalize hr : rnd f.num f.den f.neg = r at *; clear hr
  refine Ok.enter Tryz.func43 J _ Tryz.ntmps43 J ?_
  intro S w; refine Qy (Zq (α := Unit) (fun _ => True) (fun _ => [(1, .own 0)]) (fun _ => [(0, .box 38 (frCs f))]) (fun _ _ => ?_) (fun KK hN => ?_)); rotate_left
  · refine Qx (fun K hK => ?_); refine Qh 0 J J J J J J J (Qj J J J (Qj J J J (Qv (hK _ _ ?_)))); clear hK K; exact XW hN () trivial (by exact QJ J ⟨rfl, trivial⟩)
  refine Qy (Zq (α := Unit) (fun _ => True) (fun _ => [(1, .own 0), (4, .ct (natC (f.num / f.den))), (5, .ct (natC (f.num % f.den)))]) (fun _ => [(0, .box 38 (frCs f))]) (fun _ _ => ?_) (fun KK hN => ?_)); rotate_left
  · refine Qx (fun K hK => ?_); refine QW J J J fF1 J (QK J J J J J lNat J (QW J J J fF2 J (QK J J J J J lNat J (QX gorSplit (rSplit_ok f.num f.den h2 (by omega) (by omega)) J J J J ?_)))); refine Qq J J J (QZ J J J J (QZ J J J J (Qj J J J (Qj J J J (Qv (hK _ _ ?_)))))); clear hK K; exact XW hN () trivial (by exact QJ J ⟨rfl, rfl, rfl, trivial⟩)
  refine Qy (Zq (α := Unit) (fun _ => True) (fun _ => [(1, .own 0), (4, .ct (natC r))]) (fun _ => [(0, .box 38 (frCs f))]) (fun _ _ => ?_) (fun KK hN => ?_)); rotate_left
  · refine Qy (Qx fun K hK => ?_); refine QW J J J fF0 J (QK J J J J J lBool J (Qq J J J (Xe 18 J (fun g => ?_) (fun g => ?_))))
    · refine Qq J J J (Q3 J J sNat.und (List.length_map ..) J (Qk igtr J J J J (Q6 J J J J (Qv (hK _ _ (Qz ?_)))))); clear hK K; refine Q1 J (fun h => ?_) (fun h => ?_)
      · have hm : f.num % f.den ≠ 0 := limbs_len_pos.mp (by omega); rw [if_pos ⟨g, hm⟩] at hrn; refine Qx (fun K hK => ?_); refine Qq J J J (XZ J J sNat J J J ?_); rw [← e11]
        refine QX gorPlus (Yi (f.num / f.den) 1 (by omega) (by omega)) J J J J ?_
        rw [← hrn]; refine Qj J J J (Qv (hK _ _ ?_)); clear hK K; exact XW hN () trivial (by exact QJ J ⟨rfl, rfl, trivial⟩)
      · have hm : ¬ (f.num % f.den ≠ 0) := fun h' => h (by have := limbs_len_pos.mpr h'; omega)
        rw [if_neg (fun h' => hm h'.2)] at hrn; rw [← hrn]
        refine Q0 ?_
        exact XW hN () trivial (by exact QJ J ⟨rfl, rfl, trivial⟩)
    · rw [if_neg (fun h' => by rw [g] at h'; cases h'.1)] at hrn; rw [← hrn]; refine Qw J J J (Qw J J J (Qw J J J (Q2 J J J J (Qv (hK _ _ (Qz (Qr J (Q0 ?_)))))))); clear hK K; exact XW hN () trivial (by exact QJ J ⟨rfl, rfl, trivial⟩)
  unfold intV intE at hI; by_cases hr : r ≤ 4611686018427387904
  · rw [if_pos hr, if_pos hr] at hI; rw [if_pos hr] at hv; refine Qy (Qx fun K hK => ?_); refine Qq J J J (QX gorInt hI J J J J (Qq J J J (QZ J J J J (QZ J J J J (Qj J J J (Qj J J J (Qv (hK _ _ (Qz (Qy (Qy ?_))))))))))); clear hK K; refine Qx (fun K hK => ?_); refine Qq J J J (Qk ineq J J J J (Qv (hK _ _ (Qz (Qr J (Q0 (Qz (Qy (Qy ?_))))))))); clear hK K; refine Qx (fun K hK => ?_); refine QW J J J fF0 J (QK J J J J J lBool J (Qv (hK _ _ (Qz ?_)))); clear hK K; refine Zz J (fun g2 => ?_) (fun g2 => ?_)
    · refine Qx (fun K hK => ?_); refine Qq J J J (Ops.ineg J J (by omega) (by omega) J ?_); refine Qj J J J (Qv (hK _ _ (Qz (Qy ?_)))); clear hK K; refine Qx (fun K hK => ?_); refine Qq J J J (Qj J J J (Qj J J J (Qv (hK _ _ (Qz (QU ?_)))))); clear hK K; refine QY [_, _] rfl (Qu J (Qu J QQ)) (by rw [hv, he]; unfold intE sg; rw [g2, if_pos hr]; rfl) J
    · refine Q0 (Qz (Qy (Qx fun K hK => ?_))); refine Qq J J J (Qj J J J (Qj J J J (Qv (hK _ _ (Qz (QU ?_)))))); clear hK K; refine QY [_, _] rfl (Qu J (Qu J QQ)) (by rw [hv, he]; unfold intE sg; rw [g2, if_pos hr]; rfl) J
  · rw [if_neg hr, if_neg hr] at hI; rw [if_neg hr] at hv; refine Qy (Qx fun K hK => ?_); refine Qq J J J (QX gorInt hI J J J J (Qq J J J (QZ J J J J (QZ J J J J (Qj J J J (Qj J J J (Qv (hK _ _ (Qz (Qy (Qy ?_))))))))))); clear hK K; refine Qx (fun K hK => ?_); refine Qq J J J (Qk ineq J J J J (Qv (hK _ _ (Qz (Xq J (Qy ?_)))))); clear hK K; refine Qx (fun K hK => ?_); refine Qj J J J (Qj J J J (Qv (hK _ _ (Qz (QU (QV ?_)))))); clear hK K; refine QY [_, _] rfl (Qu J (Qu J QQ)) (by rw [hv, he]; unfold intE; rw [if_neg hr]; rfl) J
theorem mul_of {n : Nat} {rs : List Rw} {gs : List Fr} (hv : validR n rs = true) (hl : gs.length = rs.length) (h6 : rs.length ≤ 6) (hg : ∀ g ∈ gs, F9 g) (hn : ∀ g ∈ gs, g.neg = false) : Mul n rs gs := by
  obtain ⟨v1, v2, v3, v4⟩ := X4 hv
  have key : ∀ c : List Int, c.length = rs.length → (∀ i, -9223372036854775808 ≤ c.getD i 0 ∧ c.getD i 0 ≤ 9223372036854775807) → VFit c gs ∧ SzQ (vsum c gs) := fun c hc hb => by
    obtain ⟨h1, h2, h3⟩ := vfit9 c gs (by omega) hb (by omega) hg; exact ⟨h1, by omega, by omega⟩
  have bd : ∀ (f : Rw → Int), (∀ r ∈ rs, (f r).natAbs ≤ 4503599627370496) → ∀ i, -9223372036854775808 ≤ (rs.map f).getD i 0 ∧ (rs.map f).getD i 0 ≤ 9223372036854775807 := fun f hf i => by
    rcases Nat.lt_or_ge i (rs.map f).length with h | h
    · obtain ⟨r, hr, e⟩ := List.mem_map.1 (Xj (z := (0 : Int)) h); have := hf r hr; rw [← e]; omega
    · rw [getD_ge h]; decide
  refine ⟨hl, fun f hf => (hg f hf).vf, hn, fun j hj => key _ (by simp) (bd _ fun r hr => ?_), key _ (by simp) (bd _ fun r hr => (v4 r hr).2.2)⟩; rcases Nat.lt_or_ge j r.cs.length with h | h
  · have := (v4 r hr).2.1 _ (Xj (z := (0 : Int)) h); omega
  · rw [getD_ge h]; decide
def prR (z : List Rf) : Nat → List Int
  | 0 => []
  | i + 1 => if (z.getD i rf0).xs.length = 0 then prR z i else prR z i ++ [(i : Int)]
theorem prR_len (z : List Rf) (i : Nat) : (prR z i).length ≤ i := by
  induction i with
  | zero => simp [prR]
  | succ i ih =>
    simp only [prR]; split
    · omega
    · simp; omega
theorem sgnR_zero (f : Rf) : sgnR f = 0 ↔ f.xs.length = 0 := by
  unfold sgnR; by_cases h : f.xs.length = 0
  · rw [if_pos h]; exact ⟨fun _ => h, fun _ => rfl⟩
  · rw [if_neg h]; refine ⟨fun h2 => ?_, fun h2 => absurd h2 h⟩
    split at h2 <;> omega
section
variable {n : Int} {rs : List Rw} {z : List Rf}
set_option maxHeartbeats 4000000 in
theorem Prune_raw (hrl : rs.length < 4611686018427387904) (hr : ∀ r ∈ rs, r.cs.length < 4611686018427387904) (hzl : z.length ≤ 1000) (hs : ∀ f ∈ z, Sm f) (hv : validR n rs = true) (hb : (decide (z.length = rs.length) && !z.any badm) = true) : Ok Tryz.prog 51 [intC n, rowsC rs, rfsC z] (intsC (prR z z.length)) := by
  have hV := Zh n rs hrl hr; rw [hv] at hV; have hM := multipliers_raw rs z hrl hzl hs; rw [hb] at hM
  refine Ok.enter Tryz.func51 J _ Tryz.ntmps51 J ?_
  intro S w; refine Qy (Qx fun K hK => ?_); refine Qj J J J (Qv (hK _ _ (Qz (Qy (Qy ?_))))); clear hK K; refine Qx (fun K hK => ?_); refine Qq J J J (Qq J J J (QX goLValid hV J J J J (Qe J J J (Qq J J J (Qq J J J (Qq J J J (QX gomultipliers hM J J J J (Qe J J J (Q2 J J J J (Qv (hK _ _ (Qz (Qr J (Q0 (Qz (Qy ?_)))))))))))))))); clear hK K; refine Qx (fun K hK => ?_); refine Qj J J J (Qv (hK _ _ (Qz (Qy (Qy ?_))))); clear hK K; refine Qx (fun K hK => ?_); refine Qq J J J (Q3 J J sFracs.und (List.length_map ..) J (Qq J J J (Qv (hK _ _ (Qz (Q4 ?_)))))); clear hK K
  refine Zx 7 0 3 1 J J J ?_
  skip
  refine Qn (α := Nat) (fun i => i ≤ z.length)
    (fun i => [(7, .own 0), (20, .ct (rfsC z)), (21, .ct (intC z.length)), (22, .ct (intC i))]) (fun i => [(0, .row 3 1 (ints (prR z i)))]) (fun i => z.length - i) 0 (Nat.zero_le _) (by exact QJ J ⟨rfl, rfl, rfl, rfl, trivial⟩) ?_
  intro i hi; dsimp only at hi ⊢; refine Qy (Qx fun K hK => ?_); refine Qk ilss J J J J (Qv (hK _ _ (Qz (Qy ?_)))); clear hK K; refine Q1 J (fun h => ?_) (fun h => ?_)
  · have e2 : (i : Int).toNat = i := Int.toNat_natCast i
    have hlt : i < z.length := by omega
    have hsm := hs _ (Xj (z := rf0) hlt); have hx := hsm.x; have hpl := prR_len z i; refine Q0 (Qz (Qy (Q4 (Qy (Qx fun K hK => ?_))))); refine Qq J J J (Qc J J J sFracs (by omega) (rfs_at (by omega) (by omega)) J ?_); rw [e2]; refine Xk (n := 3) J J J Qg J J (Qa 1 J J zvFrac J J J (Qj J J J (Q8 3 J J J J J szFrac J J (Qv (hK _ _ (Qz (Qy ?_))))))); clear hK K; refine Qx (fun K hK => ?_); refine QW J J J fF1 J (QK J J J J J lNat J (Q3 J J sNat.und (List.length_map ..) J (Qk igtr J J J J (Qv (hK _ _ (Qz ?_)))))); clear hK K; refine Q1 J (fun h2 => ?_) (fun h2 => ?_)
    · have e3 : prR z (i + 1) = prR z i ++ [(i : Int)] := by simp only [prR]; rw [if_neg (by omega)]
      refine Qx (fun K hK => ?_); refine Qq J J J (Qq J J J (XZ J J sInts J J J (Qt (prR z i).length (ints (prR z (i + 1))) J J J J sInts (by simp [ints]) J (by omega) (by omega) (by rw [e3]; simp [ints]) J ?_))); refine Qj J J J (Qv (hK _ _ (Qz ?_))); clear hK K; refine Qx (fun K hK => ?_)
      refine Qk (iadd (by omega) (by omega)) J J J J ?_
      refine Qq J J J (Qv (hK _ _ (Q7 ?_))); clear hK K; refine Xy 1 (Qb (i + 1) (by omega) (by omega) (by exact QJ J ⟨rfl, rfl, rfl, by simp only [Int.natCast_add]; rfl, trivial⟩))
    · have e3 : prR z (i + 1) = prR z i := by simp only [prR]; rw [if_pos (by omega)]
      refine Q0 (Qz (Qx fun K hK => ?_))
      refine Qk (iadd (by omega) (by omega)) J J J J ?_
      refine Qq J J J (Qv (hK _ _ (Q7 ?_))); clear hK K; refine Xy 1 (Qb (i + 1) (by omega) (by omega) (by rw [e3]; exact QJ J ⟨rfl, rfl, rfl, by simp only [Int.natCast_add]; rfl, trivial⟩))
  · have hi' : i = z.length := by omega
    subst hi'; refine X6 0 _ J (X1 _ _) XV (Qm (Qz (Qy (Qx fun K hK => ?_)))); refine Qq J J J (Qj J J J (Qv (hK _ _ (Qz (QU ?_))))); clear hK K; refine QY [_] rfl (Qu J QQ) J J
set_option maxHeartbeats 4000000 in
theorem rPrune_raw (hrl : rs.length < 4611686018427387904) (hr : ∀ r ∈ rs, r.cs.length < 4611686018427387904) (hzl : z.length ≤ 1000) (hs : ∀ f ∈ z, Sm f) (hv : validR n rs = true) (hb : (decide (z.length = rs.length) && !z.any badm) = true) : Ok Tryz.prog 52 [intC n, rowsC rs, rfsC z] (intsC (prR z z.length)) := by
  have hV := Zc n rs hrl hr; rw [hv] at hV; have hP := Point_raw rs.length z hzl hs; rw [show decide ((z.length : Int) = (rs.length : Int)) = decide (z.length = rs.length) from decide_eq_decide.2 (by omega), hb] at hP
  refine Ok.enter Tryz.func52 J _ Tryz.ntmps52 J ?_
  intro S w; refine Qy (Qx fun K hK => ?_); refine Qj J J J (Qv (hK _ _ (Qz (Qy (Qy ?_))))); clear hK K; refine Qx (fun K hK => ?_); refine Qq J J J (Qq J J J (QX gorLValid hV J J J J (Qe J J J (Qq J J J (Qq J J J (Q3 J J sRows.und (List.length_map ..) J (Qq J J J (QX goPoint hP J J J J (Qe J J J (Q2 J J J J (Qv (hK _ _ (Qz (Qr J (Q0 (Qz (Qy ?_))))))))))))))))); clear hK K; refine Qx (fun K hK => ?_); refine Qj J J J (Qv (hK _ _ (Qz (Qy (Qy ?_))))); clear hK K; refine Qx (fun K hK => ?_); refine Qj J J J (Qv (hK _ _ (Qz (Q4 ?_)))); clear hK K
  refine Zx 7 0 3 1 J J J ?_
  refine Qn (α := Nat) (fun i => i ≤ z.length)
    (fun i => [(2, .ct (rfsC z)), (7, .own 0), (8, .ct (intC i))]) (fun i => [(0, .row 3 1 (ints (prR z i)))]) (fun i => z.length - i) 0 (Nat.zero_le _) (by exact QJ J ⟨rfl, rfl, rfl, trivial⟩) ?_
  intro i hi; dsimp only at hi ⊢; refine Qy (Qy (Qx fun K hK => ?_)); refine Qq J J J (Qq J J J (Q3 J J sFracs.und (List.length_map ..) J (Qk ilss J J J J (Qv (hK _ _ (Qz ?_)))))); clear hK K; refine Q1 J (fun h => ?_) (fun h => ?_)
  · have e2 : (i : Int).toNat = i := Int.toNat_natCast i
    have hlt : i < z.length := by omega
    have hsg := Sign_raw (z.getD i rf0); have hs0 := sgnR_zero (z.getD i rf0); have hpl := prR_len z i; refine Q0 (Qz (Qy (Q4 (Qy (Qx fun K hK => ?_))))); refine Qq J J J (Qq J J J (Qc J J J sFracs (by omega) (rfs_at (by omega) (by omega)) J ?_)); rw [e2]; refine Xk (n := 3) J J J Qg J J (QX goSign hsg J J J J (Qk ineq J J J J (Qv (hK _ _ (Qz ?_))))); clear hK K; refine Q1 J (fun h2 => ?_) (fun h2 => ?_)
    · have e3 : prR z (i + 1) = prR z i ++ [(i : Int)] := by simp only [prR]; rw [if_neg (fun h => h2 (hs0.2 h))]
      refine Qx (fun K hK => ?_); refine Qq J J J (Qq J J J (XZ J J sInts J J J (Qt (prR z i).length (ints (prR z (i + 1))) J J J J sInts (by simp [ints]) J (by omega) (by omega) (by rw [e3]; simp [ints]) J ?_))); refine Qj J J J (Qv (hK _ _ (Qz ?_))); clear hK K; refine Qx (fun K hK => ?_); refine Qq J J J (Qk (iadd (by omega) (by omega)) J J J J ?_); refine Qj J J J (Qv (hK _ _ (Q7 ?_))); clear hK K; refine Qb (i + 1) (by omega) (by omega) (by exact QJ J ⟨rfl, rfl, by simp only [Int.natCast_add]; rfl, trivial⟩)
    · have e3 : prR z (i + 1) = prR z i := by simp only [prR]; rw [if_pos (hs0.1 (by omega))]
      refine Q0 (Qz (Qx fun K hK => ?_)); refine Qq J J J (Qk (iadd (by omega) (by omega)) J J J J ?_); refine Qj J J J (Qv (hK _ _ (Q7 ?_))); clear hK K; refine Qb (i + 1) (by omega) (by omega) (by rw [e3]; exact QJ J ⟨rfl, rfl, by simp only [Int.natCast_add]; rfl, trivial⟩)
  · have hi' : i = z.length := by omega
    subst hi'; refine X6 0 _ J (X1 _ _) XV (Qm (Qz (Qy (Qx fun K hK => ?_)))); refine Qq J J J (Qj J J J (Qv (hK _ _ (Qz (QU ?_))))); clear hK K; refine QY [_] rfl (Qu J QQ) J J
end
theorem gorSameAll : InGo Tryz.prog 48 := InGo.of Tryz.func48 (by kernel_rfl) (by kernel_rfl)
set_option maxHeartbeats 4000000 in
theorem SameAll_refl (os : List Rat) (hl : os.length ≤ 1000) (ho : ∀ q ∈ os, SzQ q) : Ok Tryz.prog 48 [ratsC os, ratsC os] (boolC true) := by
  refine Ok.enter Tryz.func48 J _ Tryz.ntmps48 J ?_
  intro S w; refine Qy (Qx fun K hK => ?_); refine Qj J J J (Qv (hK _ _ (Qz (Qy (Qy ?_))))); clear hK K; refine Qx (fun K hK => ?_); refine Qq J J J (Q3 J J sFracs.und (List.length_map ..) J (Qq J J J (Q3 J J sFracs.und (List.length_map ..) J (Qk ineq J J J J (Qv (hK _ _ (Qz ?_))))))); clear hK K; refine Q1 J (fun h => absurd J h) (fun _ => ?_); refine Q0 (Qz (Qy (Qy (Qx fun K hK => ?_)))); refine Qj J J J (Qv (hK _ _ (Qz (Q4 ?_)))); clear hK K
  refine Qn (α := Nat) (fun i => i ≤ os.length)
    (fun i => [(0, .ct (ratsC os)), (1, .ct (ratsC os)), (5, .ct (intC i))]) (fun i => []) (fun i => os.length - i) 0 (Nat.zero_le _) (by exact QJ J ⟨rfl, rfl, rfl, trivial⟩) ?_
  intro i hi; dsimp only at hi ⊢; refine Qy (Qy (Qx fun K hK => ?_)); refine Qq J J J (Qq J J J (Q3 J J sFracs.und (List.length_map ..) J (Qk ilss J J J J (Qv (hK _ _ (Qz ?_)))))); clear hK K; refine Q1 J (fun h => ?_) (fun h => ?_)
  · have e2 : (i : Int).toNat = i := Int.toNat_natCast i
    have hlt : i < os.length := by omega
    have hq := ho _ (Xj (z := (0 : Rat)) hlt); have hE := Equal_refl (ofQ (os.getD i 0)) (by have := hq.n; omega) (by have := hq.d; omega); refine Q0 (Qz (Qy (Q4 (Qy ?_)))); refine Xz mixed 10 (.p 0 (.p 1 (.p 2 (.p 4 (.p 5 (.p 6 (.f 3 (.f 7 (.m 8 (.p 9 .done)))))))))) (by kernel_rfl) (fun K hK => ?_); refine Qq J J J (Qq J J J (Qc J J J sFracs (by omega) (Xl (by omega) (by omega)) J ?_)); refine Qq J J J (Qq J J J (Qc J J J sFracs (by omega) (Xl (by omega) (by omega)) J ?_)); refine Xk (n := 3) J J J Qg J J (Xk (n := 3) J J J Qg J J ?_); rw [e2]; skip; refine QX goEqual hE J J J J (Qe J J J (Qv (hK _ _ (Qz (Qr J (Q0 (Qz ?_))))))); clear hK K; refine Qx (fun K hK => ?_); refine Qq J J J (Qk (iadd (by omega) (by omega)) J J J J ?_); refine Qj J J J (Qv (hK _ _ (Q7 ?_))); clear hK K; refine Qb (i + 1) (by omega) (by omega) (by exact QJ J ⟨rfl, rfl, by simp only [Int.natCast_add]; rfl, trivial⟩)
  · refine Qm (Qz (Qy (Qx fun K hK => ?_))); refine Qj J J J (Qv (hK _ _ (Qz (QU ?_)))); clear hK K; refine QY [_] rfl (Qu J QQ) J J
theorem cmpF_self (f : Fr) : cmpF f f = 0 := by unfold cmpF; rw [Int.sub_self]; rfl
section
variable {n : Nat} {rs : List Rw} {gs : List Fr} {c : List Int}
set_option maxHeartbeats 4000000 in
theorem Bounds_inv (mo : Rf) (hs : Sm mo) (hi : gdf mo = false) (hv : validR n rs = true) (H : Mul n rs gs) : Ok Tryz.prog 41 [intC n, rowsC rs, intsC c, fracsC gs, .fr (aggT (rfCs mo))] (boolC false) := by
  have h1 := Combine_gen n rs gs hv H; have h2 := Zl mo.neg mo.xs mo.ys (by have := hs.x; omega) (by have := hs.y; omega); rw [show fvalidL mo.neg mo.xs mo.ys = gdf mo from rfl, hi] at h2
  refine Ok.enter Tryz.func41 J _ Tryz.ntmps41 J ?_
  intro S w; refine Qy (Qx fun K hK => ?_); refine Qh 0 J J J J J J J (Qj J J J (Qv (hK _ _ (Qz (Qy ?_))))); clear hK K; refine Qx (fun K hK => ?_); refine Qq J J J (Qq J J J (Qq J J J (QX goCombine h1 J J J J (Qq J J J (QZ J J J J (QZ J J J J (QZ J J J J (Qa 1 J J zvFrac J J J (Qj J J J (Q8 3 J J J J J szFrac J J (Qj J J J (Qv (hK _ _ (Qz (Qy ?_))))))))))))))); clear hK K; refine Qx (fun K hK => ?_); refine Qq J J J (Qk ieql J J J J (Qq J J J (Qd (n := 3) J J J J J Qg J (QX Yx h2 J J J J (Q6 J J J J (Qq J J J (Qw J J J (Qw J J J (Qw J J J (Q2 J J J J (Qq J J J (Qw J J J (Qw J J J (Qw J J J (Qw J J J (Q2 J J J J (Qj J J J (Qv (hK _ _ (Qz (QU ?_))))))))))))))))))))); clear hK K; refine QY [_] rfl (Qu J QQ) J J
set_option maxHeartbeats 4000000 in
theorem rBounds_inv (mo : Rf) (hs : Sm mo) (hi : gdf mo = false) (hv : validR n rs = true) (H : Mul n rs gs) (hlc : c.length ≤ 64) (hc : ∀ y ∈ c, -9223372036854775808 ≤ y ∧ y ≤ 9223372036854775807) : Ok Tryz.prog 54 [intC n, rowsC rs, intsC c, fracsC gs, .fr (aggT (rfCs mo))] (boolC false) := by
  have h1 := Ym n rs gs hv H; have h2 := rFValid_list mo.neg mo.xs mo.ys (by have := hs.x; omega) (by have := hs.y; omega); rw [show fvalidL mo.neg mo.xs mo.ys = gdf mo from rfl, hi] at h2; have h3 := rcovers_w (colsQ rs gs n) c (by rw [colsQ_len]; have := (X4 hv).2.1; omega) hlc H.cols hc; generalize colsQ rs gs n = os at *; generalize bsQ rs gs = bs at *
  refine Ok.enter Tryz.func54 J _ Tryz.ntmps54 J ?_
  intro S w; refine Qy (Qx fun K hK => ?_); refine Qh 0 J J J J J J J (Qj J J J (Qv (hK _ _ (Qz (Qy ?_))))); clear hK K; refine Qx (fun K hK => ?_); refine Qq J J J (Qq J J J (Qq J J J (QX gorCombine h1 J J J J (Qq J J J (QZ J J J J (QZ J J J J (QZ J J J J (Qa 1 J J zvFrac J J J (Qj J J J (Q8 3 J J J J J szFrac J J (Qj J J J (Qv (hK _ _ (Qz (Qy (Qy ?_)))))))))))))))); clear hK K; refine Qx (fun K hK => ?_); refine Qq J J J (Qk ineq J J J J (Qq J J J (Qq J J J (Qq J J J (QX gorcovers h3 J J J J (Qe J J J (Q2 J J J J (Qq J J J (Xe 32 J (fun h => ?_) (fun h => ?_))))))))))
  · refine Qw J J J (Qw J J J (Qw J J J (Q6 J J J J (Qv (hK _ _ (Qz (Xq J (Qy ?_)))))))); clear hK K; refine Qx (fun K hK => ?_); refine Qj J J J (Qv (hK _ _ (Qz (QU (QV ?_))))); clear hK K; refine QY [_] rfl (Qu J QQ) J J
  · refine Qd (n := 3) J J J J J Qg J (QX gorFValid h2 J J J J (Qe J J J (Q2 J J J J (Qv (hK _ _ (Qz (Xq J (Qy ?_)))))))); clear hK K; refine Qx (fun K hK => ?_); refine Qj J J J (Qv (hK _ _ (Qz (QU (QV ?_))))); clear hK K; refine QY [_] rfl (Qu J QQ) J J
set_option maxHeartbeats 4000000 in
theorem Bounds_F (g : Fr) (hg : VF g) (hv : validR n rs = true) (H : Mul n rs gs) (hlc : c.length ≤ 64) (hc : ∀ y ∈ c, -9223372036854775808 ≤ y ∧ y ≤ 9223372036854775807) :
    Ok Tryz.prog 41 [intC n, rowsC rs, intsC c, fracsC gs, fracC g] (boolC (covQ (colsQ rs gs n) c && !decide (cmpF g (ofQ (bsQ rs gs)) < 0))) := by
  have h1 := Combine_gen n rs gs hv H; have h2 := covers_w (colsQ rs gs n) c (by rw [colsQ_len]; have := (X4 hv).2.1; omega) hlc H.cols hc; have h3 := less_F g (ofQ (bsQ rs gs)) hg H.b.2.vf; generalize colsQ rs gs n = os at *; generalize bsQ rs gs = bs at *
  refine Ok.enter Tryz.func41 J _ Tryz.ntmps41 J ?_
  intro S w; refine Qy (Qx fun K hK => ?_); refine Qh 0 J J J J J J J (Qj J J J (Qv (hK _ _ (Qz (Qy ?_))))); clear hK K; refine Qx (fun K hK => ?_); refine Qq J J J (Qq J J J (Qq J J J (QX goCombine h1 J J J J (Qq J J J (QZ J J J J (QZ J J J J (QZ J J J J (Qa 1 J J zvFrac J J J (Qj J J J (Q8 3 J J J J J szFrac J J (Qj J J J (Qv (hK _ _ (Qz (Qy ?_))))))))))))))); clear hK K; refine Qx (fun K hK => ?_); refine Qq J J J (Qk ieql J J J J (Qq J J J (Qd (n := 3) J J J J J Qg J (QX Yx (FValid_V _ hg) J J J J (Q6 J J J J (Qq J J J (Qq J J J (Qq J J J (QX gocovers h2 J J J J (Q6 J J J J (Qq J J J (Xe 33 J (fun h => ?_) (fun h => ?_)))))))))))))
  · refine Qd (n := 3) J J J J J Qg J (Qd (n := 3) J J J J J Qg J (QX goless h3 J J J J (Qe J J J (Q6 J J J J (Qj J J J (Qv (hK _ _ (Qz (QU ?_))))))))); clear hK K; refine QY [_] rfl (Qu J QQ) (by rw [h]; rfl) J
  · refine Qw J J J (Qw J J J (Qw J J J (Qw J J J (Q2 J J J J (Qj J J J (Qv (hK _ _ (Qz (QU ?_))))))))); clear hK K; refine QY [_] rfl (Qu J QQ) (by rw [h]; rfl) J
set_option maxHeartbeats 4000000 in
theorem rBounds_F (g : Fr) (hg : VF g) (hv : validR n rs = true) (H : Mul n rs gs) (hlc : c.length ≤ 64) (hc : ∀ y ∈ c, -9223372036854775808 ≤ y ∧ y ≤ 9223372036854775807) :
    Ok Tryz.prog 54 [intC n, rowsC rs, intsC c, fracsC gs, fracC g] (boolC (covQ (colsQ rs gs n) c && !decide (cmpF g (ofQ (bsQ rs gs)) < 0))) := by
  have h1 := Ym n rs gs hv H; have h2 := rcovers_w (colsQ rs gs n) c (by rw [colsQ_len]; have := (X4 hv).2.1; omega) hlc H.cols hc; have h3 := rFCompare_F (ofQ (bsQ rs gs)) g H.b.2.vf hg; have h4 := rFValid_V _ hg
  have hcm : decide (cmpF (ofQ (bsQ rs gs)) g ≤ 0) = !decide (cmpF g (ofQ (bsQ rs gs)) < 0) := by
    have hf := cmpF_flip g (ofQ (bsQ rs gs)); by_cases h : cmpF g (ofQ (bsQ rs gs)) < 0
    · rw [decide_eq_true h, decide_eq_false (by omega)]; rfl
    · rw [decide_eq_false h, decide_eq_true (by omega)]; rfl
  generalize colsQ rs gs n = os at *; generalize bsQ rs gs = bs at *
  refine Ok.enter Tryz.func54 J _ Tryz.ntmps54 J ?_
  intro S w; refine Qy (Qx fun K hK => ?_); refine Qh 0 J J J J J J J (Qj J J J (Qv (hK _ _ (Qz (Qy ?_))))); clear hK K; refine Qx (fun K hK => ?_); refine Qq J J J (Qq J J J (Qq J J J (QX gorCombine h1 J J J J (Qq J J J (QZ J J J J (QZ J J J J (QZ J J J J (Qa 1 J J zvFrac J J J (Qj J J J (Q8 3 J J J J J szFrac J J (Qj J J J (Qv (hK _ _ (Qz (Qy (Qy ?_)))))))))))))))); clear hK K; refine Qx (fun K hK => ?_); refine Qq J J J (Qk ineq J J J J (Qq J J J (Qq J J J (Qq J J J (QX gorcovers h2 J J J J (Qe J J J (Q2 J J J J (Qq J J J (Xe 32 J (fun h => ?_) (fun h => ?_))))))))))
  · have hcv : covQ os c = false := by simpa using h
    refine Qw J J J (Qw J J J (Qw J J J (Q6 J J J J (Qv (hK _ _ (Qz (Xq J (Qy ?_)))))))); clear hK K; refine Qx (fun K hK => ?_); refine Qj J J J (Qv (hK _ _ (Qz (QU (QV ?_))))); clear hK K; refine QY [_] rfl (Qu J QQ) (by rw [hcv]; rfl) J
  · have hcv : covQ os c = true := by simpa using h
    refine Qd (n := 3) J J J J J Qg J (QX gorFValid h4 J J J J (Qe J J J (Q2 J J J J (Qv (hK _ _ (Qz (Qr J (Q0 (Qz (Qy ?_)))))))))); clear hK K; refine Qx (fun K hK => ?_); refine Qd (n := 3) J J J J J Qg J (Qd (n := 3) J J J J J Qg J (QX YK h3 J J J J (Qq J J J (QZ J J J J (QZ J J J J (Qj J J J (Qj J J J (Qv (hK _ _ (Qz (Qy ?_))))))))))); clear hK K; refine Qx (fun K hK => ?_); refine Qq J J J (Qk ileq J J J J (Qj J J J (Qv (hK _ _ (Qz (QU ?_)))))); clear hK K; refine QY [_] rfl (Qu J QQ) (by rw [hcv, ← hcm]; rfl) J
def ceOk (cv : Bool) (b : Fr) : Bool := cv && decide (flE b = 0)
def ceV (cv : Bool) (b : Fr) : Int := if ceOk cv b then flV b else 0
set_option maxHeartbeats 4000000 in
theorem Ceiling_F (hv : validR n rs = true) (H : Mul n rs gs) (hlc : c.length ≤ 64) (hc : ∀ y ∈ c, -9223372036854775808 ≤ y ∧ y ≤ 9223372036854775807) :
    Ok Tryz.prog 42 [intC n, rowsC rs, intsC c, fracsC gs] (.fr (tupT [intC (ceV (covQ (colsQ rs gs n) c) (ofQ (bsQ rs gs))), boolC (ceOk (covQ (colsQ rs gs n) c) (ofQ (bsQ rs gs)))])) := by
  have hb := H.b.2; have h1 := Combine_gen n rs gs hv H; have h2 := Bounds_F (c := c) (ofQ (bsQ rs gs)) hb.vf hv H hlc hc; rw [cmpF_self, decide_eq_false (Int.lt_irrefl _), Bool.not_false, Bool.and_true] at h2; have h3 := FFloor_any (ofQ (bsQ rs gs)) (by have := hb.n; omega) (Xp _) (by have := hb.d; omega); have ho : ceOk (covQ (colsQ rs gs n) c) (ofQ (bsQ rs gs)) = (covQ (colsQ rs gs n) c && decide (flE (ofQ (bsQ rs gs)) = 0)) := rfl
  have hve : ceV (covQ (colsQ rs gs n) c) (ofQ (bsQ rs gs)) = if ceOk (covQ (colsQ rs gs n) c) (ofQ (bsQ rs gs)) then flV (ofQ (bsQ rs gs)) else 0 := rfl
  generalize ceV (covQ (colsQ rs gs n) c) (ofQ (bsQ rs gs)) = V at *; generalize ceOk (covQ (colsQ rs gs n) c) (ofQ (bsQ rs gs)) = ok at *; generalize covQ (colsQ rs gs n) c = cv at *; generalize colsQ rs gs n = os at *; generalize flV (ofQ (bsQ rs gs)) = fv at *; generalize flE (ofQ (bsQ rs gs)) = fe at *; generalize bsQ rs gs = bs at *
  refine Ok.enter Tryz.func42 J _ Tryz.ntmps42 J ?_
  intro S w; refine Qy (Qx fun K hK => ?_); refine Qj J J J (Qj J J J (Qv (hK _ _ (Qz (Qy ?_))))); clear hK K; refine Qx (fun K hK => ?_); refine Qq J J J (Qq J J J (Qq J J J (QX goCombine h1 J J J J (Qq J J J (QZ J J J J (QZ J J J J (QZ J J J J (Qa 0 J J zvFrac J J J (Qj J J J (Q8 3 J J J J J szFrac J J (Qj J J J (Qv (hK _ _ (Qz (Qy (Qy ?_)))))))))))))))); clear hK K; refine Qx (fun K hK => ?_); refine Qq J J J (Qk ineq J J J J (Qq J J J (Qq J J J (Qq J J J (Qq J J J (Qq J J J (Qd (n := 3) J J J J J Qg J (QX goBounds h2 J J J J (Qe J J J (Q2 J J J J (Qv (hK _ _ (Qz ?_))))))))))))); clear hK K; refine Zz J (fun h => ?_) (fun h => ?_)
  · have h' : cv = false := by simpa using h
    subst h'; rw [Bool.false_and] at ho; subst ho; rw [if_neg (by decide)] at hve; refine Qy (Qx fun K hK => ?_); refine Qj J J J (Qj J J J (Qv (hK _ _ (Qz (QU (QV ?_)))))); clear hK K; refine QY [_, _] rfl (Qu J (Qu J QQ)) (by rw [hve]; rfl) J
  · have h' : cv = true := by simpa using h
    subst h'; rw [Bool.true_and] at ho; refine Q0 (Qz (Qy (Qx fun K hK => ?_))); refine Qd (n := 3) J J J J J Qg J (QX goFFloor h3 J J J J (Qq J J J (QZ J J J J (QZ J J J J (Qj J J J (Qj J J J (Qv (hK _ _ (Qz (Qy (Qy ?_))))))))))); clear hK K; refine Qx (fun K hK => ?_); refine Qq J J J (Qk ineq J J J J (Qv (hK _ _ (Qz ?_)))); clear hK K; refine Q1 J (fun h4 => ?_) (fun h4 => ?_)
    · rw [decide_eq_false h4] at ho; subst ho; rw [if_neg (by decide)] at hve; refine Qy (Qx fun K hK => ?_); refine Qj J J J (Qj J J J (Qv (hK _ _ (Qz (QU (QV ?_)))))); clear hK K; refine QY [_, _] rfl (Qu J (Qu J QQ)) (by rw [hve]; rfl) J
    · rw [decide_eq_true (Classical.not_not.1 h4)] at ho; subst ho; rw [if_pos J] at hve; refine Q0 (Qz (Qy (Qx fun K hK => ?_))); refine Qq J J J (Qj J J J (Qj J J J (Qv (hK _ _ (Qz (QU ?_)))))); clear hK K; refine QY [_, _] rfl (Qu J (Qu J QQ)) (by rw [hve]; rfl) J
set_option maxHeartbeats 4000000 in
theorem rCeiling_F (hv : validR n rs = true) (H : Mul n rs gs) (hlc : c.length ≤ 64) (hc : ∀ y ∈ c, -9223372036854775808 ≤ y ∧ y ≤ 9223372036854775807) :
    Ok Tryz.prog 53 [intC n, rowsC rs, intsC c, fracsC gs] (.fr (tupT [intC (ceV (covQ (colsQ rs gs n) c) (ofQ (bsQ rs gs))), boolC (ceOk (covQ (colsQ rs gs n) c) (ofQ (bsQ rs gs)))])) := by
  have hb := H.b.2; have h1 := Ym n rs gs hv H; have h2 := rcovers_w (colsQ rs gs n) c (by rw [colsQ_len]; have := (X4 hv).2.1; omega) hlc H.cols hc; have h3 := rFloor_any (ofQ (bsQ rs gs)) (by have := hb.n; omega) (Xp _) (by have := hb.d; omega); have ho : ceOk (covQ (colsQ rs gs n) c) (ofQ (bsQ rs gs)) = (covQ (colsQ rs gs n) c && decide (flE (ofQ (bsQ rs gs)) = 0)) := rfl
  have hve : ceV (covQ (colsQ rs gs n) c) (ofQ (bsQ rs gs)) = if ceOk (covQ (colsQ rs gs n) c) (ofQ (bsQ rs gs)) then flV (ofQ (bsQ rs gs)) else 0 := rfl
  generalize ceV (covQ (colsQ rs gs n) c) (ofQ (bsQ rs gs)) = V at *; generalize ceOk (covQ (colsQ rs gs n) c) (ofQ (bsQ rs gs)) = ok at *; generalize covQ (colsQ rs gs n) c = cv at *; generalize colsQ rs gs n = os at *; generalize flV (ofQ (bsQ rs gs)) = fv at *; generalize flE (ofQ (bsQ rs gs)) = fe at *; generalize bsQ rs gs = bs at *
  refine Ok.enter Tryz.func53 J _ Tryz.ntmps53 J ?_
  intro S w; refine Qy (Qx fun K hK => ?_); refine Qj J J J (Qj J J J (Qv (hK _ _ (Qz (Qy ?_))))); clear hK K; refine Qx (fun K hK => ?_); refine Qq J J J (Qq J J J (Qq J J J (QX gorCombine h1 J J J J (Qq J J J (QZ J J J J (QZ J J J J (QZ J J J J (Qa 0 J J zvFrac J J J (Qj J J J (Q8 3 J J J J J szFrac J J (Qj J J J (Qv (hK _ _ (Qz (Qy (Qy ?_)))))))))))))))); clear hK K; refine Qx (fun K hK => ?_); refine Qq J J J (Qk ineq J J J J (Qq J J J (Qq J J J (Qq J J J (QX gorcovers h2 J J J J (Qe J J J (Q2 J J J J (Qv (hK _ _ (Qz ?_)))))))))); clear hK K; refine Zz J (fun h => ?_) (fun h => ?_)
  · have h' : cv = false := by simpa using h
    subst h'; rw [Bool.false_and] at ho; subst ho; rw [if_neg (by decide)] at hve; refine Qy (Qx fun K hK => ?_); refine Qj J J J (Qj J J J (Qv (hK _ _ (Qz (QU (QV ?_)))))); clear hK K; refine QY [_, _] rfl (Qu J (Qu J QQ)) (by rw [hve]; rfl) J
  · have h' : cv = true := by simpa using h
    subst h'; rw [Bool.true_and] at ho; refine Q0 (Qz (Qy (Qx fun K hK => ?_))); refine Qd (n := 3) J J J J J Qg J (QX gorFloor h3 J J J J (Qq J J J (QZ J J J J (QZ J J J J (Qj J J J (Qj J J J (Qv (hK _ _ (Qz (Qy (Qy ?_))))))))))); clear hK K; refine Qx (fun K hK => ?_); refine Qq J J J (Qk ineq J J J J (Qv (hK _ _ (Qz ?_)))); clear hK K; refine Q1 J (fun h4 => ?_) (fun h4 => ?_)
    · rw [decide_eq_false h4] at ho; subst ho; rw [if_neg (by decide)] at hve; refine Qy (Qx fun K hK => ?_); refine Qj J J J (Qj J J J (Qv (hK _ _ (Qz (QU (QV ?_)))))); clear hK K; refine QY [_, _] rfl (Qu J (Qu J QQ)) (by rw [hve]; rfl) J
    · rw [decide_eq_true (Classical.not_not.1 h4)] at ho; subst ho; rw [if_pos J] at hve; refine Q0 (Qz (Qy (Qx fun K hK => ?_))); refine Qq J J J (Qj J J J (Qj J J J (Qv (hK _ _ (Qz (QU ?_)))))); clear hK K; refine QY [_, _] rfl (Qu J (Qu J QQ)) (by rw [hve]; rfl) J
end
section
variable {n : Int} {rs : List Rw} {z : List Rf}
set_option maxHeartbeats 4000000 in
theorem Satisfies_bad (hrl : rs.length < 4611686018427387904) (hr : ∀ r ∈ rs, r.cs.length < 4611686018427387904) (hzl : z.length ≤ 1000) (hs : ∀ f ∈ z, Sm f) (hb : (validR n rs && (decide ((z.length : Int) = n) && !z.any badm)) = false) : Ok Tryz.prog 20 [intC n, rowsC rs, rfsC z] (boolC false) := by
  have hV := Zh n rs hrl hr; have hC := ContainsFunc_rfs z _ badm goSatisfies1 (fun f hf => Satisfies1_raw f (hs f hf)) (by omega)
  refine Ok.enter Tryz.func20 J _ Tryz.ntmps20 J ?_
  intro S w
  cases hv : validR n rs with
  | false =>
    rw [hv] at hV; refine Qy (Qx fun K hK => ?_); refine Qj J J J (Qv (hK _ _ (Qz (Qy (Qy ?_))))); clear hK K; refine Qx (fun K hK => ?_); refine Qq J J J (Qq J J J (QX goLValid hV J J J J (Qe J J J (Qq J J J (Qw J J J (Qw J J J (Qw J J J (Qw J J J (Q6 J J J J (Qq J J J (Qw J J J (Qw J J J (Q6 J J J J (Qv (hK _ _ (Qz (Xq J (Qy ?_)))))))))))))))))); clear hK K; refine Qx (fun K hK => ?_); refine Qj J J J (Qv (hK _ _ (Qz (QU (QV ?_))))); clear hK K; refine QY [_] rfl (Qu J QQ) J J
  | true =>
    rw [hv] at hV hb; rw [Bool.true_and] at hb; by_cases hn : (z.length : Int) = n
    · rw [decide_eq_true hn, Bool.true_and, Bool.not_eq_false'] at hb; rw [hb] at hC; refine Qy (Qx fun K hK => ?_); refine Qj J J J (Qv (hK _ _ (Qz (Qy (Qy ?_))))); clear hK K; refine Qx (fun K hK => ?_); refine Qq J J J (Qq J J J (QX goLValid hV J J J J (Qe J J J (Qq J J J (Qq J J J (Q3 J J sFracs.und (List.length_map ..) J (Qq J J J (Qk ineq J J J J (Q2 J J J J (Qq J J J ?_)))))))))); rw [decide_eq_false (show ¬ ((z.length : Int) ≠ n) by omega)]; refine Qq J J J (QX Xg hC J J J J (Q2 J J J J (Qv (hK _ _ (Qz (Xq J (Qy ?_))))))); clear hK K; refine Qx (fun K hK => ?_); refine Qj J J J (Qv (hK _ _ (Qz (QU (QV ?_))))); clear hK K; refine QY [_] rfl (Qu J QQ) J J
    · refine Qy (Qx fun K hK => ?_); refine Qj J J J (Qv (hK _ _ (Qz (Qy (Qy ?_))))); clear hK K; refine Qx (fun K hK => ?_); refine Qq J J J (Qq J J J (QX goLValid hV J J J J (Qe J J J (Qq J J J (Qq J J J (Q3 J J sFracs.und (List.length_map ..) J (Qq J J J (Qk ineq J J J J (Q2 J J J J (Qq J J J ?_)))))))))); rw [decide_eq_true (show ((z.length : Int) ≠ n) by omega)]; refine Qw J J J (Qw J J J (Q6 J J J J (Qv (hK _ _ (Qz (Xq J (Qy ?_))))))); clear hK K; refine Qx (fun K hK => ?_); refine Qj J J J (Qv (hK _ _ (Qz (QU (QV ?_))))); clear hK K; refine QY [_] rfl (Qu J QQ) J J
set_option maxHeartbeats 4000000 in
theorem rSatisfies_bad (hrl : rs.length < 4611686018427387904) (hr : ∀ r ∈ rs, r.cs.length < 4611686018427387904) (hzl : z.length ≤ 1000) (hs : ∀ f ∈ z, Sm f) (hb : (validR n rs && (decide ((z.length : Int) = n) && !z.any badm)) = false) : Ok Tryz.prog 21 [intC n, rowsC rs, rfsC z] (boolC false) := by
  have hV := Zc n rs hrl hr; have hP := Point_raw n z hzl hs
  refine Ok.enter Tryz.func21 J _ Tryz.ntmps21 J ?_
  intro S w
  cases hv : validR n rs with
  | false =>
    rw [hv] at hV; refine Qy (Qx fun K hK => ?_); refine Qj J J J (Qv (hK _ _ (Qz (Qy (Qy ?_))))); clear hK K; refine Qx (fun K hK => ?_); refine Qq J J J (Qq J J J (QX gorLValid hV J J J J (Qe J J J (Qq J J J (Qw J J J (Qw J J J (Qw J J J (Qw J J J (Q6 J J J J (Qv (hK _ _ (Qz (Xq J (Qy ?_)))))))))))))); clear hK K; refine Qx (fun K hK => ?_); refine Qj J J J (Qv (hK _ _ (Qz (QU (QV ?_))))); clear hK K; refine QY [_] rfl (Qu J QQ) J J
  | true =>
    rw [hv] at hV hb; rw [Bool.true_and] at hb; rw [hb] at hP; refine Qy (Qx fun K hK => ?_); refine Qj J J J (Qv (hK _ _ (Qz (Qy (Qy ?_))))); clear hK K; refine Qx (fun K hK => ?_); refine Qq J J J (Qq J J J (QX gorLValid hV J J J J (Qe J J J (Qq J J J (Qq J J J (Qq J J J (QX goPoint hP J J J J (Qe J J J (Q2 J J J J (Qv (hK _ _ (Qz (Xq J (Qy ?_)))))))))))))); clear hK K; refine Qx (fun K hK => ?_); refine Qj J J J (Qv (hK _ _ (Qz (QU (QV ?_))))); clear hK K; refine QY [_] rfl (Qu J QQ) J J
set_option maxHeartbeats 4000000 in
theorem grows_bad (c : List Int) (hzl : z.length ≤ 1000) (hs : ∀ f ∈ z, Sm f) (hb : (decide ((z.length : Int) = n) && !z.any badm) = false) : Ok Tryz.prog 109 [intC n, rowsC rs, intsC c, rfsC z] (boolC false) := by
  have hC := ContainsFunc_rfs z _ badm gogrows1 (fun f hf => grows1_raw f (hs f hf)) (by omega)
  refine Ok.enter Tryz.func109 J _ Tryz.ntmps109 J ?_
  intro S w; by_cases hn : (z.length : Int) = n
  · rw [decide_eq_true hn, Bool.true_and, Bool.not_eq_false'] at hb; rw [hb] at hC; refine Qy (Qx fun K hK => ?_); refine Qj J J J (Qv (hK _ _ (Qz (Qy (Qy ?_))))); clear hK K; refine Qx (fun K hK => ?_); refine Qq J J J (Q3 J J sFracs.und (List.length_map ..) J (Qq J J J (Qk ineq J J J J (Qq J J J ?_)))); rw [decide_eq_false (show ¬ ((z.length : Int) ≠ n) by omega)]; refine Qq J J J (QX Xg hC J J J J (Q2 J J J J (Qv (hK _ _ (Qz (Xq J (Qy ?_))))))); clear hK K; refine Qx (fun K hK => ?_); refine Qj J J J (Qv (hK _ _ (Qz (QU (QV ?_))))); clear hK K; refine QY [_] rfl (Qu J QQ) J J
  · refine Qy (Qx fun K hK => ?_); refine Qj J J J (Qv (hK _ _ (Qz (Qy (Qy ?_))))); clear hK K; refine Qx (fun K hK => ?_); refine Qq J J J (Q3 J J sFracs.und (List.length_map ..) J (Qq J J J (Qk ineq J J J J (Qq J J J ?_)))); rw [decide_eq_true (show ((z.length : Int) ≠ n) by omega)]; refine Qw J J J (Qw J J J (Q6 J J J J (Qv (hK _ _ (Qz (Xq J (Qy ?_))))))); clear hK K; refine Qx (fun K hK => ?_); refine Qj J J J (Qv (hK _ _ (Qz (QU (QV ?_))))); clear hK K; refine QY [_] rfl (Qu J QQ) J J
set_option maxHeartbeats 4000000 in
theorem rgrows_bad (c : List Int) (hzl : z.length ≤ 1000) (hs : ∀ f ∈ z, Sm f) (hb : (decide ((z.length : Int) = n) && !z.any badm) = false) : Ok Tryz.prog 77 [intC n, rowsC rs, intsC c, rfsC z] (boolC false) := by
  have hP := Point_raw n z hzl hs; rw [hb] at hP
  refine Ok.enter Tryz.func77 J _ Tryz.ntmps77 J ?_
  intro S w; refine Qy (Qx fun K hK => ?_); refine Qj J J J (Qv (hK _ _ (Qz (Qy (Qy ?_))))); clear hK K; refine Qx (fun K hK => ?_); refine Qq J J J (Qq J J J (QX goPoint hP J J J J (Qe J J J (Qv (hK _ _ (Qz (Xq J (Qy ?_)))))))); clear hK K; refine Qx (fun K hK => ?_); refine Qj J J J (Qv (hK _ _ (Qz (QU (QV ?_))))); clear hK K; refine QY [_] rfl (Qu J QQ) J J
end
def zeroR (f : Rf) : Bool := !f.neg && decide (f.xs.length = 0) && decide (f.ys.length = 0)
theorem zero_raw (f : Rf) (h : Sm f) : Ok Tryz.prog 108 [.fr (aggT (rfCs f))] (boolC (zeroR f)) := by
  obtain ⟨neg, xs, ys⟩ := f; have hz : zeroR ⟨neg, xs, ys⟩ = (!neg && decide (xs.length = 0) && decide (ys.length = 0)) := rfl; have hx := h.x; have hy := h.y; dsimp only at hx hy; have e1 : decide ((xs.length : Int) = 0) = decide (xs.length = 0) := decide_eq_decide.2 (by omega); have e2 : decide ((ys.length : Int) = 0) = decide (ys.length = 0) := decide_eq_decide.2 (by omega); rw [← e1, ← e2] at hz; generalize zeroR ⟨neg, xs, ys⟩ = b at *
  refine Ok.enter Tryz.func108 J _ Tryz.ntmps108 J ?_
  intro S w
  cases neg with
  | true =>
    refine Qy (Qx fun K hK => ?_); refine Qh 0 J J J J J J J (Qj J J J (Qv (hK _ _ (Qz (Qy ?_))))); clear hK K; refine Qx (fun K hK => ?_); refine QW J J J fF0 J (QK J J J J J lBool J (Qe J J J (Qq J J J (Qw J J J (Qw J J J (Qw J J J (Qw J J J (Q2 J J J J (Qq J J J (Qw J J J (Qw J J J (Qw J J J (Qw J J J (Q2 J J J J (Qj J J J (Qv (hK _ _ (Qz (QU ?_))))))))))))))))))); clear hK K; refine QY [_] rfl (Qu J QQ) (by rw [hz]; rfl) J
  | false =>
    refine Qy (Qx fun K hK => ?_); refine Qh 0 J J J J J J J (Qj J J J (Qv (hK _ _ (Qz (Qy ?_))))); clear hK K; refine Qx (fun K hK => ?_); refine QW J J J fF0 J (QK J J J J J lBool J (Qe J J J (Qq J J J (QW J J J fF1 J (QK J J J J J lNat J (Q3 J J sNat.und (List.length_map ..) J (Qk ieql J J J J (Q6 J J J J (Qq J J J ?_))))))))); by_cases h0 : (xs.length : Int) = 0
    · rw [h0] at hz ⊢; refine QW J J J fF2 J (QK J J J J J lNat J (Q3 J J sNat.und (List.length_map ..) J (Qk ieql J J J J (Q6 J J J J (Qj J J J (Qv (hK _ _ (Qz (QU ?_))))))))); clear hK K; refine QY [_] rfl (Qu J QQ) (by rw [hz]; rfl) J
    · rw [decide_eq_false h0] at hz ⊢; refine Qw J J J (Qw J J J (Qw J J J (Qw J J J (Q2 J J J J (Qj J J J (Qv (hK _ _ (Qz (QU ?_))))))))); clear hK K; refine QY [_] rfl (Qu J QQ) (by rw [hz]; rfl) J
theorem rzero_raw (f : Rf) (h : Sm f) : Ok Tryz.prog 76 [.fr (aggT (rfCs f))] (boolC (zeroR f)) := by
  obtain ⟨neg, xs, ys⟩ := f; have hz : zeroR ⟨neg, xs, ys⟩ = (!neg && decide (xs.length = 0) && decide (ys.length = 0)) := rfl; have hx := h.x; have hy := h.y; dsimp only at hx hy; have e1 : decide ((xs.length : Int) = 0) = decide (xs.length = 0) := decide_eq_decide.2 (by omega); have e2 : decide ((ys.length : Int) = 0) = decide (ys.length = 0) := decide_eq_decide.2 (by omega); rw [← e1, ← e2] at hz; generalize zeroR ⟨neg, xs, ys⟩ = b at *
  refine Ok.enter Tryz.func76 J _ Tryz.ntmps76 J ?_
  intro S w
  cases neg with
  | true =>
    refine Qy (Qx fun K hK => ?_); refine Qh 0 J J J J J J J (Qj J J J (Qv (hK _ _ (Qz (Qy ?_))))); clear hK K; refine Qx (fun K hK => ?_); refine QW J J J fF0 J (QK J J J J J lBool J (Qe J J J (Qq J J J (Qw J J J (Qw J J J (Qw J J J (Qw J J J (Q2 J J J J (Qq J J J (Qw J J J (Qw J J J (Qw J J J (Qw J J J (Q2 J J J J (Qj J J J (Qv (hK _ _ (Qz (QU ?_))))))))))))))))))); clear hK K; refine QY [_] rfl (Qu J QQ) (by rw [hz]; rfl) J
  | false =>
    refine Qy (Qx fun K hK => ?_); refine Qh 0 J J J J J J J (Qj J J J (Qv (hK _ _ (Qz (Qy ?_))))); clear hK K; refine Qx (fun K hK => ?_); refine QW J J J fF0 J (QK J J J J J lBool J (Qe J J J (Qq J J J (QW J J J fF1 J (QK J J J J J lNat J (Q3 J J sNat.und (List.length_map ..) J (Qk ieql J J J J (Q6 J J J J (Qq J J J ?_))))))))); by_cases h0 : (xs.length : Int) = 0
    · rw [h0] at hz ⊢; refine QW J J J fF2 J (QK J J J J J lNat J (Q3 J J sNat.und (List.length_map ..) J (Qk ieql J J J J (Q6 J J J J (Qj J J J (Qv (hK _ _ (Qz (QU ?_))))))))); clear hK K; refine QY [_] rfl (Qu J QQ) (by rw [hz]; rfl) J
    · rw [decide_eq_false h0] at hz ⊢; refine Qw J J J (Qw J J J (Qw J J J (Qw J J J (Q2 J J J J (Qj J J J (Qv (hK _ _ (Qz (QU ?_))))))))); clear hK K; refine QY [_] rfl (Qu J QQ) (by rw [hz]; rfl) J
section
variable {n : Int} {rs : List Rw} {z : List Rf} {c : List Int}
structure In35 (rs : List Rw) (z : List Rf) : Prop where
  rl : rs.length ≤ 6
  cl : ∀ r ∈ rs, r.cs.length < 4611686018427387904
  zl : z.length ≤ 6
  sm : ∀ f ∈ z, Sm f
theorem comb_cases (h : In35 rs z) : (∃ e : Int, e ≠ 0 ∧ (validR n rs && (decide (z.length = rs.length) && !z.any badm)) = false ∧ Ok Tryz.prog 40 [intC n, rowsC rs, rfsC z] (.fr (tupT [ratsC [], fracC frz0, intC e])) ∧ Ok Tryz.prog 47 [intC n, rowsC rs, rfsC z] (.fr (tupT [ratsC [], fracC frz0, intC e]))) ∨
    ∃ (N : Nat) (gs : List Fr), n = N ∧ z = gs.map rfOf ∧ validR N rs = true ∧ Mul N rs gs ∧ (decide (z.length = rs.length) && !z.any badm) = true := by
  have hrl := h.rl; have hzl := h.zl
  cases hv : validR n rs with
  | false => exact .inl ⟨1, by decide, rfl, Combine_range (by omega) h.cl hv, rCombine_range (by omega) h.cl hv⟩
  | true =>
    cases hb : (decide (z.length = rs.length) && !z.any badm) with
    | false => exact .inl ⟨31, by decide, rfl, Combine_evid (by omega) h.cl hv (by omega) h.sm hb, rCombine_evid (by omega) h.cl hv (by omega) h.sm hb⟩
    | true =>
      have hb2 := hb; rw [Bool.and_eq_true, decide_eq_true_eq, Bool.not_eq_true'] at hb2; obtain ⟨gs, rfl, hg, hn⟩ := badm_all h.sm hb2.2; obtain ⟨N, rfl⟩ : ∃ N : Nat, n = N := ⟨n.toNat, by have := (X4 hv).1; omega⟩; rw [List.length_map] at hb2; exact .inr ⟨N, gs, rfl, rfl, hv, mul_of hv hb2.1 hrl hg hn, rfl⟩
theorem comb_raw (h : In35 rs z) : ∃ (os : List Rat) (b : Fr) (e : Int), Ok Tryz.prog 40 [intC n, rowsC rs, rfsC z] (.fr (tupT [ratsC os, fracC b, intC e])) ∧ Ok Tryz.prog 47 [intC n, rowsC rs, rfsC z] (.fr (tupT [ratsC os, fracC b, intC e])) ∧ Ok Tryz.prog 48 [ratsC os, ratsC os] (boolC true) ∧ Ok Tryz.prog 19 [fracC b, fracC b] (boolC true) := by
  rcases comb_cases (n := n) h with ⟨e, _, _, h1, h2⟩ | ⟨N, gs, rfl, rfl, hv, H, _⟩
  · exact ⟨[], frz0, e, h1, h2, SameAll_refl [] (by decide) (fun q hq => nomatch hq), Equal_refl frz0 (by decide +kernel) (by decide +kernel)⟩
  · rw [rfs_of]; have hb := H.b.2; exact ⟨_, _, _, Combine_gen N rs gs hv H, Ym N rs gs hv H, SameAll_refl _ (by rw [colsQ_len]; have := (X4 hv).2.1; omega) H.cols, Equal_refl _ (by have := hb.n; omega) (by have := hb.d; omega)⟩
theorem refutes_raw (h : In35 rs z) : ∃ b : Bool, Ok Tryz.prog 49 [intC n, rowsC rs, rfsC z] (boolC b) ∧ Ok Tryz.prog 50 [intC n, rowsC rs, rfsC z] (boolC b) := by
  rcases comb_cases (n := n) h with ⟨e, he, _, h1, h2⟩ | ⟨N, gs, rfl, rfl, hv, H, _⟩
  · exact ⟨false, Refutes_err he h1, rRefutes_err he h2⟩
  · rw [rfs_of]; exact ⟨_, Refutes_gen N rs gs hv H, rRefutes_gen N rs gs hv H⟩
theorem prune_raw (h : In35 rs z) : ∃ l : List Int, l.length ≤ 6 ∧ Ok Tryz.prog 51 [intC n, rowsC rs, rfsC z] (intsC l) ∧ Ok Tryz.prog 52 [intC n, rowsC rs, rfsC z] (intsC l) := by
  have hrl := h.rl; have hzl := h.zl
  cases hb : (validR n rs && (decide (z.length = rs.length) && !z.any badm)) with
  | false => exact ⟨[], by decide, Prune_bad (by omega) h.cl (by omega) h.sm hb, rPrune_bad (by omega) h.cl (by omega) h.sm hb⟩
  | true =>
    rw [Bool.and_eq_true] at hb; exact ⟨_, Nat.le_trans (prR_len z _) hzl, Prune_raw (by omega) h.cl (by omega) h.sm hb.1 hb.2, rPrune_raw (by omega) h.cl (by omega) h.sm hb.1 hb.2⟩
theorem bounds_raw (h : In35 rs z) (mo : Rf) (hm : Sm mo) (hlc : c.length ≤ 64) (hc : ∀ y ∈ c, -9223372036854775808 ≤ y ∧ y ≤ 9223372036854775807) : ∃ b : Bool, Ok Tryz.prog 41 [intC n, rowsC rs, intsC c, rfsC z, .fr (aggT (rfCs mo))] (boolC b) ∧ Ok Tryz.prog 54 [intC n, rowsC rs, intsC c, rfsC z, .fr (aggT (rfCs mo))] (boolC b) := by
  rcases comb_cases (n := n) h with ⟨e, he, _, h1, h2⟩ | ⟨N, gs, rfl, rfl, hv, H, _⟩
  · exact ⟨false, Bounds_err c mo he h1, rBounds_err c mo he h2⟩
  · rw [rfs_of]
    cases hi : gdf mo with
    | false => exact ⟨false, Bounds_inv mo hm hi hv H, rBounds_inv mo hm hi hv H hlc hc⟩
    | true =>
      obtain ⟨g, hg, rfl⟩ := gdf_fr hm hi; exact ⟨_, Bounds_F g hg.vf hv H hlc hc, rBounds_F g hg.vf hv H hlc hc⟩
theorem ceil_raw (h : In35 rs z) (hlc : c.length ≤ 64) (hc : ∀ y ∈ c, -9223372036854775808 ≤ y ∧ y ≤ 9223372036854775807) : ∃ (v : Int) (b : Bool), Ok Tryz.prog 42 [intC n, rowsC rs, intsC c, rfsC z] (.fr (tupT [intC v, boolC b])) ∧ Ok Tryz.prog 53 [intC n, rowsC rs, intsC c, rfsC z] (.fr (tupT [intC v, boolC b])) := by
  rcases comb_cases (n := n) h with ⟨e, he, _, h1, h2⟩ | ⟨N, gs, rfl, rfl, hv, H, _⟩
  · exact ⟨0, false, Ceiling_err c he h1, rCeiling_err c he h2⟩
  · rw [rfs_of]; exact ⟨_, _, Ceiling_F hv H hlc hc, rCeiling_F hv H hlc hc⟩
theorem sat_raw (h : In35 rs z) : ∃ b : Bool, Ok Tryz.prog 20 [intC n, rowsC rs, rfsC z] (boolC b) ∧ Ok Tryz.prog 21 [intC n, rowsC rs, rfsC z] (boolC b) ∧ (b = true → ∃ gs : List Fr, z = gs.map rfOf ∧ gs.length ≤ 6 ∧ ∀ g ∈ gs, F9 g) := by
  have hrl := h.rl; have hzl := h.zl
  cases hb : (validR n rs && (decide ((z.length : Int) = n) && !z.any badm)) with
  | false => exact ⟨false, Satisfies_bad (by omega) h.cl (by omega) h.sm hb, rSatisfies_bad (by omega) h.cl (by omega) h.sm hb, fun h => by cases h⟩
  | true =>
    simp only [Bool.and_eq_true, decide_eq_true_eq, Bool.not_eq_true'] at hb; obtain ⟨hv, hl, hm⟩ := hb; obtain ⟨gs, rfl, hg, hn⟩ := badm_all h.sm hm; rw [List.length_map] at hzl; rw [rfs_of]; exact ⟨_, Satisfies_gen n rs gs (by omega) h.cl (by omega) (fun f hf => (hg f hf).vf) (fun hv _ => sfit9 n rs gs hv hzl hg), rSatisfies_gen n rs gs (by omega) h.cl (by omega) (fun f hf => (hg f hf).vf) (fun hv _ => sfit9 n rs gs hv hzl hg), fun _ => ⟨gs, rfl, hzl, hg⟩⟩
theorem grow_raw (h : In35 rs z) (hv : validR n rs = true) (hk : okCoeffs n c = true) : ∃ b : Bool, Ok Tryz.prog 109 [intC n, rowsC rs, intsC c, rfsC z] (boolC b) ∧ Ok Tryz.prog 77 [intC n, rowsC rs, intsC c, rfsC z] (boolC b) := by
  have hrl := h.rl; have hzl := h.zl; obtain ⟨N, rfl, hL⟩ := lp_of hv hk; have hcl := hL.cl; have hn := hL.nn
  cases hb : (decide ((z.length : Int) = (N : Int)) && !z.any badm) with
  | false => exact ⟨false, grows_bad c (by omega) h.sm hb, rgrows_bad c (by omega) h.sm hb⟩
  | true =>
    rw [Bool.and_eq_true, decide_eq_true_eq, Bool.not_eq_true'] at hb; obtain ⟨gs, rfl, hg, hng⟩ := badm_all h.sm hb.2; rw [List.length_map] at hzl hb; rw [rfs_of]; have hV := (vfit9 c gs (by omega) (fun i => by have := hL.cb i; omega) hzl hg).1; have hS := (sfit9 N rs gs hv hzl hg).v; exact ⟨_, grows_gen N rs c gs (by omega) (by omega) (by omega) (fun f hf => (hg f hf).vf) hng hS hV, rgrows_gen N rs c gs (by omega) (by omega) (by omega) (fun f hf => (hg f hf).vf) hng hS hV⟩
end
end Go.Proofs.YtdhmbgogmoaofaaGreat
