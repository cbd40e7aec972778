/-
  Lists of fractions and rows; fractions in twelfths.
-/
import Derived.Test.YtgpkpmhdfcopgaaN12
namespace Go.Proofs.Ytgpkpmhdfcopgaa
open Go.Own Go.Limbs
attribute [local irreducible] St Ops Go.Own.Fin Ok

def fr0 : Fr := ⟨false, 0, 1⟩
structure Rw where
  cs : List Int
  b : Int
def rw0 : Rw := ⟨[], 0⟩
abbrev rwCs (r : Rw) : List CT := [intsC r.cs, intC r.b]
abbrev rowC (r : Rw) : CT := .fr (aggT (rwCs r))
abbrev rowsC (rs : List Rw) : CT := .fr (sliceT 2 (rs.map rwCs))

theorem map_at {α : Type} (f : α → List CT) (z : α) {xs : List α} {j : Int} (h0 : 0 ≤ j) (h : j < (xs.length : Int)) : (xs.map f)[j.toNat]? = some (f (xs.getD j.toNat z)) := by
  have : j.toNat < xs.length := by omega
  simp [List.getElem?_map, List.getElem?_eq_getElem this, List.getD_eq_getElem?_getD]
theorem fracs_at {fs : List Fr} {j : Int} (h0 : 0 ≤ j) (h : j < (fs.length : Int)) : (fs.map frCs)[j.toNat]? = some (frCs (fs.getD j.toNat fr0)) := map_at frCs fr0 h0 h
theorem rows_at {rs : List Rw} {j : Int} (h0 : 0 ≤ j) (h : j < (rs.length : Int)) : (rs.map rwCs)[j.toNat]? = some (rwCs (rs.getD j.toNat rw0)) := map_at rwCs rw0 h0 h

/-- Twelfths. -/
def tw (m : Int) : Rat := mkRat m 12
/-- The fraction of a number of twelfths. -/
def tf (m : Int) : Fr := ofQ (tw m)
abbrev twC (m : Int) : CT := fracC (tf m)
abbrev twsC (ms : List Int) : CT := .fr (sliceT 3 (ms.map fun m => frCs (tf m)))
theorem twsC_eq (ms : List Int) : twsC ms = fracsC (ms.map tf) := by show CT.fr (sliceT 3 _) = CT.fr (sliceT 3 _); rw [List.map_map]; rfl
theorem tws_at {ms : List Int} {j : Int} (h0 : 0 ≤ j) (h : j < (ms.length : Int)) : (ms.map fun m => frCs (tf m))[j.toNat]? = some (frCs (tf (ms.getD j.toNat 0))) := map_at (fun m => frCs (tf m)) 0 h0 h

theorem tf_red (m : Int) : tf m = redF (decide (m < 0)) m.natAbs 12 := by
  unfold tf tw; rw [redF_q _ _ _ (by decide), sg_natAbs]
theorem tf_gcd (m : Int) : ∃ g : Nat, 0 < g ∧ m.natAbs = (tf m).num * g ∧ 12 = (tf m).den * g := by
  rw [tf_red]
  refine ⟨Nat.gcd m.natAbs 12, Nat.gcd_pos_of_pos_right _ (by decide), ?_, ?_⟩
  · exact (Nat.div_mul_cancel (Nat.gcd_dvd_left _ _)).symm
  · exact (Nat.div_mul_cancel (Nat.gcd_dvd_right _ _)).symm
theorem tf_num_le (m : Int) : (tf m).num ≤ m.natAbs := by rw [tf_red]; exact Nat.div_le_self _ _
theorem tf_den (m : Int) : 0 < (tf m).den ∧ (tf m).den ≤ 12 := by rw [tf_red]; exact redF_den _ _ _ (by decide)
theorem tf_num_zero (m : Int) : (tf m).num = 0 ↔ m = 0 := by
  obtain ⟨g, h1, h2, _⟩ := tf_gcd m
  constructor
  · intro h; rw [h] at h2; omega
  · intro h; have := tf_num_le m; omega
theorem tf_neg (m : Int) : (tf m).neg = decide (m < 0) := by
  have h : (tf m).neg = (decide (m < 0) && decide ((tf m).num ≠ 0)) := by rw [tf_red]; rfl
  have h2 := tf_num_zero m
  rw [h]
  by_cases hm : m < 0
  · have : (tf m).num ≠ 0 := fun h' => by have := h2.mp h'; omega
    simp [hm, this]
  · simp [hm]
theorem tf_sg (m : Int) : ∃ g : Nat, 0 < g ∧ m = sg (tf m).neg (tf m).num * g ∧ 12 = (tf m).den * g := by
  obtain ⟨g, h1, h2, h3⟩ := tf_gcd m
  refine ⟨g, h1, ?_, h3⟩
  rw [← sg_mul, ← h2, tf_neg, sg_natAbs]

theorem tw_add (a b : Int) : tw a + tw b = tw (a + b) := by
  unfold tw
  rw [Rat.mkRat_add_mkRat _ _ (by decide) (by decide), show a * ((12 : Nat) : Int) + b * ((12 : Nat) : Int) = (a + b) * ((12 : Nat) : Int) by omega, Rat.mkRat_mul_right (by decide)]
theorem tw_mul (c m : Int) : tw (12 * c) * tw m = tw (c * m) := by
  unfold tw
  rw [Rat.mkRat_mul_mkRat, show 12 * c * m = c * m * ((12 : Nat) : Int) by grind, Rat.mkRat_mul_right (by decide)]
theorem tw_one (n : Int) : Rat.divInt n 1 = tw (12 * n) := by
  unfold tw
  show mkRat n 1 = _
  rw [show 12 * n = n * ((12 : Nat) : Int) by omega, ← Rat.mkRat_mul_right (a := 12) (by decide)]
theorem tw_div (n : Int) (d e : Nat) (h : d * e = 12) : mkRat n d = tw (n * e) := by
  unfold tw
  rw [← h, Rat.mkRat_mul_right (by intro h0; subst h0; simp at h)]

/-- Sizes of all numbers here. -/
def Tb (m : Int) : Prop := m.natAbs < 1180591620717411303424
theorem Tb.sz {m : Int} (h : Tb m) : Sz (tf m).num := Sz.of (Nat.lt_of_le_of_lt (tf_num_le m) (Nat.lt_trans h (by decide)))
theorem tf_szd (m : Int) : Sz (tf m).den := Sz.of (Nat.lt_of_le_of_lt (tf_den m).2 (by decide))
theorem tf_dd (a b : Int) : (tf a).den * (tf b).den < 1073741824 := Nat.lt_of_le_of_lt (Nat.mul_le_mul (tf_den a).2 (tf_den b).2) (by decide)

theorem From_tw (n : Int) (h1 : -9223372036854775808 ≤ n) (h2 : n ≤ 9223372036854775807) : Ok Try.prog 27 [intC n, intC 1] (.fr (tupT [twC (12 * n), intC 0])) := by
  have h := FFrom_ok n 1 h1 h2 (by decide) (by decide) (by decide)
  rw [tw_one] at h; exact h
theorem Add_tw (a b : Int) (ha : Tb a) (hb : Tb b) : Ok Try.prog 32 [twC a, twC b] (.fr (tupT [twC (a + b), intC 0])) := by
  have h := FAdd_fr (tf a) (tf b) ha.sz hb.sz (tf_den a).1 (tf_den b).1 (tf_dd a b)
  unfold tf at h
  rw [add_redF, tw_add] at h; exact h
theorem Mul_tw (c m : Int) (hc : Tb (12 * c)) (hm : Tb m) : Ok Try.prog 31 [twC (12 * c), twC m] (.fr (tupT [twC (c * m), intC 0])) := by
  have h := FMul_fr (tf (12 * c)) (tf m) hc.sz hm.sz (tf_den _).1 (tf_den m).1 (tf_dd _ m)
  unfold tf at h
  rw [mul_redF, tw_mul] at h; exact h

theorem cmp_tf (a b : Int) : (if sumN (tf a).neg ((tf a).num * (tf b).den) (!(tf b).neg) ((tf b).num * (tf a).den) = 0 then (0 : Int) else if sumS (tf a).neg ((tf a).num * (tf b).den) (!(tf b).neg) ((tf b).num * (tf a).den) then -1 else 1) = cmpI a b := by
  have hs := sum_sg (tf a).neg ((tf a).num * (tf b).den) (!(tf b).neg) ((tf b).num * (tf a).den)
  obtain ⟨g, hg, ea, ed⟩ := tf_sg a
  obtain ⟨g', hg', eb, ed'⟩ := tf_sg b
  have hn : sg (!(tf b).neg) ((tf b).num * (tf a).den) = - sg (tf b).neg ((tf b).num * (tf a).den) := by
    unfold sg; cases (tf b).neg <;> simp
  rw [hn, sg_mul, sg_mul] at hs
  generalize sumN (tf a).neg ((tf a).num * (tf b).den) (!(tf b).neg) ((tf b).num * (tf a).den) = N at *
  generalize sumS (tf a).neg ((tf a).num * (tf b).den) (!(tf b).neg) ((tf b).num * (tf a).den) = s at *
  generalize sg (tf a).neg (tf a).num = p at *
  generalize sg (tf b).neg (tf b).num = q at *
  have ed1 : (12 : Int) = (tf a).den * g := by exact_mod_cast ed
  have ed2 : (12 : Int) = (tf b).den * g' := by exact_mod_cast ed'
  generalize ((tf a).den : Int) = x at *
  generalize ((tf b).den : Int) = y at *
  have key : sg s N * ((g : Int) * g') = 12 * (a - b) := by rw [hs, ea, eb]; grind
  have hgg : (0 : Int) < (g : Int) * g' := Int.mul_pos (by omega) (by omega)
  generalize (g : Int) * g' = z at *
  unfold cmpI
  by_cases hN : N = 0
  · rw [if_pos hN]
    have : sg s N = 0 := by rw [hN]; unfold sg; split <;> rfl
    rw [this] at key
    have : a = b := by omega
    rw [if_neg (by omega), if_neg (by omega)]
  · rw [if_neg hN]
    cases hs' : s
    · have h2 : sg s N = N := by unfold sg; rw [hs']; rfl
      have : 0 < sg s N * z := Int.mul_pos (by omega) hgg
      rw [if_neg (by decide), if_neg (by omega), if_pos (by omega)]
    · have h2 : sg s N = -N := by unfold sg; rw [hs']; rfl
      have : 0 < (-sg s N) * z := Int.mul_pos (by omega) hgg
      rw [Int.neg_mul] at this
      rw [if_pos rfl, if_pos (by omega)]
theorem Compare_tw (a b : Int) (ha : Tb a) (hb : Tb b) : Ok Try.prog 28 [twC a, twC b] (.fr (tupT [intC (cmpI a b), intC 0])) := by
  have h := FCompare_fr (tf a) (tf b) ha.sz (tf_szd a) hb.sz (tf_szd b)
  rw [cmp_tf] at h; exact h
theorem Floor_tw (m : Int) (hm : m.natAbs < 4611686018427387904) : Ok Try.prog 35 [twC m] (.fr (tupT [intC (m / 12), intC 0])) := by
  have h := FFloor_ok (tf m) (Nat.lt_of_le_of_lt (tf_num_le m) hm) (tf_den m).1 (Nat.lt_of_le_of_lt (tf_den m).2 (by decide))
  have e : sg (tf m).neg (tf m).num / ((tf m).den : Int) = m / 12 := by
    obtain ⟨g, hg, ea, ed⟩ := tf_sg m
    have ed1 : (12 : Int) = (tf m).den * g := by exact_mod_cast ed
    conv => rhs; rw [ea, ed1]
    rw [Int.mul_ediv_mul_of_pos_left _ _ (by omega)]
  rw [e] at h; exact h
theorem Valid_tw (m : Int) (hm : Tb m) : Ok Try.prog 26 [twC m] (boolC true) := by
  have h1 : (limbs (tf m).num).length ≤ 30 := hm.sz
  have h2 : (limbs (tf m).den).length ≤ 30 := tf_szd m
  have h := FValid_list (tf m).neg (limbs (tf m).num) (limbs (tf m).den) (by omega) (by omega)
  have hv : fvalidL (tf m).neg (limbs (tf m).num) (limbs (tf m).den) = true := by
    unfold fvalidL
    rw [validL_limbs (by omega), validL_limbs (by omega), tf_neg]
    have h3 := limbs_len_pos (n := (tf m).den)
    have h4 := limbs_len_pos (n := (tf m).num)
    have h5 := tf_num_zero m
    have h6 := (tf_den m).1
    rw [show decide ((limbs (tf m).num).length ≤ 64) = true by simp; omega, show decide ((limbs (tf m).den).length ≤ 64) = true by simp; omega, show decide (0 < (limbs (tf m).den).length) = true by simp only [decide_eq_true_eq]; omega]
    by_cases hm0 : m < 0
    · rw [show decide ((limbs (tf m).num).length = 0) = false by simp only [decide_eq_false_iff_not]; omega]; simp
    · rw [show decide (m < 0) = false by simp; omega]; rfl
  rw [hv] at h; exact h

end Go.Proofs.Ytgpkpmhdfcopgaa
