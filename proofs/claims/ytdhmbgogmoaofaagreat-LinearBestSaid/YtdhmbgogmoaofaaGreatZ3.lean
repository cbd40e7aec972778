/- The proof that LinearBest holds for every input, without conditions: part 3 of 6. -/
import Derived.Test.YtdhmbgogmoaofaaGreatZ2
import Derived.Laws.Slices
namespace Go.Proofs.YtdhmbgogmoaofaaGreat
open Go.Own Go.Limbs
attribute [local irreducible] St Ops Go.Own.Fin Ok OkM
def pvZ (p D : Int) (s : Nat) (rr line : List Int) (j : Nat) : Int := if j = s then -(line.getD s 0) else (line.getD j 0 * p + -(rr.getD j 0 * line.getD s 0)).tdiv D
def pvPre (p D : Int) (s : Nat) (rr line : List Int) (q : Nat) : List Int := (List.range line.length).map fun j => if j < q ∧ j ≠ s then pvZ p D s rr line j else line.getD j 0
def pvRow (p D : Int) (s : Nat) (rr line : List Int) : List Int := (List.range line.length).map (pvZ p D s rr line)
def pvRows (T : Tv) (r s q : Nat) : List (List Int) := (List.range T.rows.length).map fun i => if i < q ∧ i ≠ r then pvRow (T.at r s) T.den s (T.rows.getD r []) (T.rows.getD i []) else T.rows.getD i []
def negL (l : List Int) : List Int := l.map (fun z => -z)
def pvt (T : Tv) (r s : Nat) : Tv :=
  let rows := (pvRows T r s T.rows.length).set r ((T.rows.getD r []).set s T.den)
  { T with rows := if T.at r s < 0 then rows.map negL else rows, bas := T.bas.set r (T.col.getD s 0), col := T.col.set s (T.bas.getD r 0), den := if T.at r s < 0 then -(T.at r s) else T.at r s }
theorem pvPre_len (p D : Int) (s : Nat) (rr line : List Int) (q : Nat) : (pvPre p D s rr line q).length = line.length := by simp [pvPre]
theorem pvRow_len (p D : Int) (s : Nat) (rr line : List Int) : (pvRow p D s rr line).length = line.length := by simp [pvRow]
theorem pvRows_len (T : Tv) (r s q : Nat) : (pvRows T r s q).length = T.rows.length := by simp [pvRows]
theorem range_getD {α : Type} (n : Nat) (f : Nat → α) (d : α) {j : Nat} (h : j < n) : ((List.range n).map f).getD j d = f j := by simp [List.getD_eq_getElem?_getD, h]
theorem range_self {α : Type} (l : List α) (d : α) : (List.range l.length).map (fun j => l.getD j d) = l := by
  apply List.ext_getElem (by simp)
  intro j h1 h2
  simp [List.getD_eq_getElem?_getD, h2]
theorem range_set {α : Type} (n : Nat) (f g : Nat → α) (q : Nat) (x : α) (hq : q < n) (h : ∀ j, j < n → g j = if j = q then x else f j) : ((List.range n).map f).set q x = (List.range n).map g := by
  apply List.ext_getElem (by simp)
  intro j h1 h2
  simp only [List.length_map, List.length_range] at h2
  rw [List.getElem_set]
  simp only [List.getElem_map, List.getElem_range]
  rw [h j h2]
  by_cases e : q = j
  · subst e; simp
  · rw [if_neg e, if_neg (Ne.symm e)]
theorem pvPre_zero (p D : Int) (s : Nat) (rr line : List Int) : pvPre p D s rr line 0 = line := by
  unfold pvPre
  have : (fun j => if j < 0 ∧ j ≠ s then pvZ p D s rr line j else line.getD j 0) = fun j => line.getD j 0 := by funext j; rw [if_neg (by omega)]
  rw [this, range_self]
theorem pvPre_at (p D : Int) (s : Nat) (rr line : List Int) (q j : Nat) (h : j < line.length) (hq : q ≤ j ∨ j = s) : (pvPre p D s rr line q).getD j 0 = line.getD j 0 := by
  unfold pvPre; rw [range_getD _ _ _ h, if_neg (by omega)]
theorem pvPre_skip (p D : Int) (s : Nat) (rr line : List Int) (q : Nat) (hq : q = s ∨ pvZ p D s rr line q = line.getD q 0) : pvPre p D s rr line (q + 1) = pvPre p D s rr line q := by
  unfold pvPre
  congr 1
  funext j
  by_cases h : j < q ∧ j ≠ s
  · rw [if_pos h, if_pos ⟨by omega, h.2⟩]
  · rw [if_neg h]
    by_cases h2 : j < q + 1 ∧ j ≠ s
    · rw [if_pos h2]
      have : j = q := by omega
      subst this
      rcases hq with hq | hq
      · omega
      · exact hq
    · rw [if_neg h2]
theorem pvPre_set (p D : Int) (s : Nat) (rr line : List Int) (q : Nat) (h : q < line.length) (hq : q ≠ s) : (pvPre p D s rr line q).set q (pvZ p D s rr line q) = pvPre p D s rr line (q + 1) := by
  unfold pvPre
  refine range_set _ _ _ q _ h (fun j hj => ?_)
  by_cases e : j = q
  · subst e; rw [if_pos rfl, if_pos ⟨by omega, hq⟩]
  · rw [if_neg e]
    by_cases h2 : j < q ∧ j ≠ s
    · rw [if_pos h2, if_pos ⟨by omega, h2.2⟩]
    · rw [if_neg h2, if_neg (by omega)]
theorem pvPre_done (p D : Int) (s : Nat) (rr line : List Int) (h : s < line.length) : (pvPre p D s rr line line.length).set s (-(line.getD s 0)) = pvRow p D s rr line := by
  unfold pvPre pvRow
  refine range_set _ _ _ s _ h (fun j hj => ?_)
  by_cases e : j = s
  · subst e; rw [if_pos rfl]; unfold pvZ; rw [if_pos rfl]
  · rw [if_neg e, if_pos ⟨hj, e⟩]
theorem pvZ_zero {p D : Int} {s : Nat} {rr line : List Int} {j : Nat} (hj : j ≠ s) (h : line.getD j 0 = 0) (h2 : line.getD s 0 = 0 ∨ rr.getD j 0 = 0) : pvZ p D s rr line j = line.getD j 0 := by
  unfold pvZ; rw [if_neg hj, h]
  rcases h2 with h2 | h2 <;> rw [h2] <;> simp
theorem pvRow_same {D : Int} {s : Nat} {rr line : List Int} (hD : D ≠ 0) (h : line.getD s 0 = 0) : pvRow D D s rr line = line := by
  unfold pvRow
  have : (pvZ D D s rr line) = fun j => line.getD j 0 := by
    funext j
    unfold pvZ
    split
    · rename_i e; subst e; rw [h]; rfl
    · rw [h, Int.mul_zero, Int.neg_zero, Int.add_zero, Int.mul_tdiv_cancel _ hD]
  rw [this, range_self]
theorem pvRows_zero (T : Tv) (r s : Nat) : pvRows T r s 0 = T.rows := by
  unfold pvRows
  have : (fun i => if i < 0 ∧ i ≠ r then pvRow (T.at r s) T.den s (T.rows.getD r []) (T.rows.getD i []) else T.rows.getD i []) = fun i => T.rows.getD i [] := by funext i; rw [if_neg (by omega)]
  rw [this, range_self]
theorem pvRows_at (T : Tv) (r s q i : Nat) (h : i < T.rows.length) (hq : q ≤ i ∨ i = r) : (pvRows T r s q).getD i [] = T.rows.getD i [] := by
  unfold pvRows; rw [range_getD _ _ _ h, if_neg (by omega)]
theorem pvRows_skip (T : Tv) (r s q : Nat) (hq : q = r ∨ pvRow (T.at r s) T.den s (T.rows.getD r []) (T.rows.getD q []) = T.rows.getD q []) : pvRows T r s (q + 1) = pvRows T r s q := by
  unfold pvRows
  congr 1
  funext j
  by_cases h : j < q ∧ j ≠ r
  · rw [if_pos h, if_pos ⟨by omega, h.2⟩]
  · rw [if_neg h]
    by_cases h2 : j < q + 1 ∧ j ≠ r
    · rw [if_pos h2]
      have : j = q := by omega
      subst this
      rcases hq with hq | hq
      · omega
      · exact hq
    · rw [if_neg h2]
theorem pvRows_set (T : Tv) (r s q : Nat) (h : q < T.rows.length) (hq : q ≠ r) : (pvRows T r s q).set q (pvRow (T.at r s) T.den s (T.rows.getD r []) (T.rows.getD q [])) = pvRows T r s (q + 1) := by
  unfold pvRows
  refine range_set _ _ _ q _ h (fun j hj => ?_)
  by_cases e : j = q
  · subst e; rw [if_pos rfl, if_pos ⟨by omega, hq⟩]
  · rw [if_neg e]
    by_cases h2 : j < q ∧ j ≠ r
    · rw [if_pos h2, if_pos ⟨by omega, h2.2⟩]
    · rw [if_neg h2, if_neg (by omega)]
def negP (l : List Int) (q : Nat) : List Int := (List.range l.length).map fun j => if j < q then -(l.getD j 0) else l.getD j 0
def negR (l : List (List Int)) (q : Nat) : List (List Int) := (List.range l.length).map fun j => if j < q then negL (l.getD j []) else l.getD j []
theorem negP_len (l : List Int) (q : Nat) : (negP l q).length = l.length := by simp [negP]
theorem negR_len (l : List (List Int)) (q : Nat) : (negR l q).length = l.length := by simp [negR]
theorem negP_zero (l : List Int) : negP l 0 = l := by
  unfold negP
  have : (fun j => if j < 0 then -(l.getD j 0) else l.getD j 0) = fun j => l.getD j 0 := by funext j; rw [if_neg (by omega)]
  rw [this, range_self]
theorem negR_zero (l : List (List Int)) : negR l 0 = l := by
  unfold negR
  have : (fun j => if j < 0 then negL (l.getD j []) else l.getD j []) = fun j => l.getD j [] := by funext j; rw [if_neg (by omega)]
  rw [this, range_self]
theorem negP_at (l : List Int) (q : Nat) (h : q < l.length) : (negP l q).getD q 0 = l.getD q 0 := by unfold negP; rw [range_getD _ _ _ h, if_neg (by omega)]
theorem negR_at (l : List (List Int)) (q : Nat) (h : q < l.length) : (negR l q).getD q [] = l.getD q [] := by unfold negR; rw [range_getD _ _ _ h, if_neg (by omega)]
theorem negP_set (l : List Int) (q : Nat) (h : q < l.length) : (negP l q).set q (-(l.getD q 0)) = negP l (q + 1) := by
  unfold negP
  refine range_set _ _ _ q _ h (fun j hj => ?_)
  by_cases e : j = q
  · subst e; rw [if_pos rfl, if_pos (by omega)]
  · rw [if_neg e]
    by_cases h2 : j < q
    · rw [if_pos h2, if_pos (by omega)]
    · rw [if_neg h2, if_neg (by omega)]
theorem negR_set (l : List (List Int)) (q : Nat) (h : q < l.length) : (negR l q).set q (negL (l.getD q [])) = negR l (q + 1) := by
  unfold negR
  refine range_set _ _ _ q _ h (fun j hj => ?_)
  by_cases e : j = q
  · subst e; rw [if_pos rfl, if_pos (by omega)]
  · rw [if_neg e]
    by_cases h2 : j < q
    · rw [if_pos h2, if_pos (by omega)]
    · rw [if_neg h2, if_neg (by omega)]
theorem negP_done (l : List Int) : negP l l.length = negL l := by
  unfold negP negL
  apply List.ext_getElem (by simp)
  intro j h1 h2
  simp only [List.length_map, List.length_range] at h1
  simp [List.getD_eq_getElem?_getD, h1]
theorem negR_done (l : List (List Int)) : negR l l.length = l.map negL := by
  unfold negR
  apply List.ext_getElem (by simp)
  intro j h1 h2
  simp only [List.length_map, List.length_range] at h1
  simp [List.getD_eq_getElem?_getD, h1]
end Go.Proofs.YtdhmbgogmoaofaaGreat
namespace Go.Own
theorem X2 {X : Ctx} {L L' : AL} {B : BL} {K : Act → World → Prop} (h : Fin X L' B K) (hs : subL L L') : Fin X L B K := Fin.keep L' hs h
end Go.Own
namespace Go.Proofs.YtdhmbgogmoaofaaGreat
open Go.Own Go.Limbs
attribute [local irreducible] St Ops Go.Own.Fin Ok OkM
abbrev tb (T : Tv) (rows : List (List Int)) (bas col : List Int) (den : Int) : BL :=
  (0, .box 98 [.ex T.hR, .ex T.hB, .ex T.hC, boolC (decide (den < 0)), natC den.natAbs]) :: (1, .rowx T.hR 95 1 (T.hl.map CT.ex)) :: (2, .rowx T.hB 3 1 (ints bas)) :: (3, .rowx T.hC 3 1 (ints col)) :: linesB 10 T.hl rows
abbrev unitC : CT := .fr (tupT [])
theorem set_getD {α : Type} {l : List α} {i j : Nat} {x d : α} (h : i < l.length) : (l.set i x).getD j d = if i = j then x else l.getD j d := by
  simp only [List.getD_eq_getElem?_getD, List.getElem?_set]
  by_cases hp : i = j
  · subst hp; simp [h]
  · simp [hp]
theorem bdel_lines : ∀ (k : Nat) (hl : List Value) (zs : List (List Int)) (j : Nat), j < k → bdel (linesB k hl zs) j = linesB k hl zs
  | _, [], _, _, _ => by simp [linesB, bdel]
  | _, _ :: _, [], _, _ => by simp [linesB, bdel]
  | k, h :: hl, z :: zs, j, hj => by
    have : Nat.beq k j = false := beq_ne (by omega)
    simp only [linesB, bdel, this]
    rw [bdel_lines (k + 1) hl zs j (by omega)]
theorem del5 {T : Tv} {rows : List (List Int)} {bas col : List Int} {den : Int} {e e4 : Ent} : bdel ((5, e) :: (4, e4) :: tb T rows bas col den) 5 = (4, e4) :: tb T rows bas col den := by
  show (4, e4) :: (0, _) :: (1, _) :: (2, _) :: (3, _) :: bdel (linesB 10 T.hl rows) 5 = _
  rw [bdel_lines _ _ _ _ (by decide)]
theorem del4 {T : Tv} {rows : List (List Int)} {bas col : List Int} {den : Int} {e4 : Ent} : bdel ((4, e4) :: tb T rows bas col den) 4 = tb T rows bas col den := by
  show (0, _) :: (1, _) :: (2, _) :: (3, _) :: bdel (linesB 10 T.hl rows) 4 = _
  rw [bdel_lines _ _ _ _ (by decide)]
theorem set_line5 {T : Tv} {rows : List (List Int)} {bas col : List Int} {den : Int} {e5 e4 : Ent} {i : Nat} (y : List Int) (h1 : i < T.hl.length) (h2 : i < rows.length) : bset ((5, e5) :: (4, e4) :: tb T rows bas col den) (i + 10) (.rowx (T.hl.getD i default) 94 2 (whs y)) = (5, e5) :: (4, e4) :: tb T (rows.set i y) bas col den := by
  rw [bset_skip rfl, bset_skip rfl, bset_skip rfl, bset_skip rfl, bset_skip rfl, bset_skip rfl, lines_set y h1 h2]
theorem set_line4 {T : Tv} {rows : List (List Int)} {bas col : List Int} {den : Int} {e4 : Ent} {i : Nat} (y : List Int) (h1 : i < T.hl.length) (h2 : i < rows.length) : bset ((4, e4) :: tb T rows bas col den) (i + 10) (.rowx (T.hl.getD i default) 94 2 (whs y)) = (4, e4) :: tb T (rows.set i y) bas col den := by
  rw [bset_skip rfl, bset_skip rfl, bset_skip rfl, bset_skip rfl, bset_skip rfl, lines_set y h1 h2]
theorem pvt_pos {T : Tv} {r s : Nat} {p : Int} (hp : T.at r s = p) (h : ¬ p < 0) : tabB (pvt T r s) = tb T ((pvRows T r s T.rows.length).set r ((T.rows.getD r []).set s T.den)) (T.bas.set r (T.col.getD s 0)) (T.col.set s (T.bas.getD r 0)) p := by
  simp only [pvt, tabB, hp, if_neg h]
theorem pvt_neg {T : Tv} {r s : Nat} {p : Int} (hp : T.at r s = p) (h : p < 0) : tabB (pvt T r s) = tb T (((pvRows T r s T.rows.length).set r ((T.rows.getD r []).set s T.den)).map negL) (T.bas.set r (T.col.getD s 0)) (T.col.set s (T.bas.getD r 0)) (-p) := by
  simp only [pvt, tabB, hp, if_pos h]
theorem gopivot : InGo Tryz.prog 127 := InGo.of Tryz.func127 (by kernel_rfl) (by kernel_rfl)
set_option maxHeartbeats 32000000 in
theorem pivot_ok (T : Tv) (hF : Fit T) (hS : Shrt T) (hD : 0 < T.den) (hDs : (limbs T.den.natAbs).length ≤ 60) (r s : Nat) (hr : r < T.bas.length) (hs : s < T.col.length) : OkM Tryz.prog 127 [.own 0, .ct (intC r), .ct (intC s)] (tabB T) [0] (fun _ : Unit => True) (fun _ => .ct unitC) (fun _ => tabB (pvt T r s)) := by
  have hfew := hF.few
  have hthin := hF.thin
  have hhl := hF.hl
  have hbas := hF.bas
  have hr2 : r < T.rows.length := by omega
  have hrowr := hF.row r hr2
  have kr : (r : Int).toNat * 1 = r := by omega
  have ks : (s : Int).toNat * 2 = s * 2 := by omega
  have ks1 : (s : Int).toNat * 1 = s := by omega
  have sp := hS r s
  refine OkM.enter Tryz.func127 rfl _ Tryz.ntmps127 rfl (tab_fx T) ?_
  intro S w ρ0 hbor
  show St _ _ (tb T T.rows T.bas T.col T.den) _ _
  generalize hp : T.at r s = p at *
  (refine Qy (Qx fun K hK => ?_); refine Qq rfl rfl rfl ?_; refine Q1 rfl rfl rfl rfl ?_; refine QV rfl rfl rfl (by with_reducible first | exact fW0 | exact fW1 | exact fT0 | exact fT1 | exact fT2 | exact fT3 | exact fR0 | exact fR1) rfl ?_; refine QJ rfl rfl rfl rfl rfl (by with_reducible first | exact lInt | exact lNat | exact lBool | exact lInts | exact lMat | exact lWhs) rfl ?_; refine Qq rfl rfl rfl ?_)
  refine Qi 1 T.rows.length rfl rfl rfl (by simp [hhl]) rfl sMat (by omega) (by omega) rfl ?_
  rw [kr]
  refine QJ rfl rfl rfl rfl (hl_get (by omega)) lWhs rfl ?_
  (refine Qq rfl rfl rfl ?_)
  refine Qi (r + 10) (T.col.length + 1) rfl rfl (lines_get (by omega) hr2) (by rw [whs_len, hrowr]) rfl sWhs (by omega) (by omega) rfl ?_
  rw [ks]
  refine ldWh rfl rfl rfl (lines_get (by omega) hr2) rfl (by omega) lWh rfl ?_
  rw [show (T.rows.getD r []).getD s 0 = p from hp]
  (refine Qd 4 rfl rfl (by with_reducible exact zvWh) rfl (by exact lines_lt 10 _ _ 4 (by decide)) rfl ?_; refine Qa 2 rfl rfl rfl rfl rfl (by with_reducible first | exact szWh | exact szRow) rfl rfl ?_; refine Qj (hK _ _ (Qz (Qy ?_))); clear hK K)
  refine Xq (by with_reducible exact mixed) 10 (.p 1 (.p 2 (.p 3 (.f 0 (.f 4 (.m 5 (.m 6 (.m 7 (.p 8 (.p 9 .done)))))))))) (by kernel_rfl) (fun K hK => ?_)
  (refine Qq rfl rfl rfl ?_; refine Q1 rfl rfl rfl rfl ?_; refine QV rfl rfl rfl (by with_reducible first | exact fW0 | exact fW1 | exact fT0 | exact fT1 | exact fT2 | exact fT3 | exact fR0 | exact fR1) rfl ?_; refine Qp (n := 2) rfl rfl rfl rfl rfl (by with_reducible first | exact lWh | exact lRow) rfl ?_)
  refine X7 (n := 2) rfl rfl rfl rfl (Nat.le_of_ble_eq_true rfl) (by with_reducible exact lWh) rfl ?_
  refine QX gominus (minus_ok T.den) rfl rfl rfl rfl ?_
  refine QX goplus (plus_ok p (-T.den) (by omega) (Nat.le_trans (neg_short hDs) (by decide))) rfl rfl rfl rfl ?_
  refine QX gosign (sign_ok _) rfl rfl rfl rfl ?_
  (refine Qw ieql rfl rfl rfl rfl ?_; refine Qv rfl rfl rfl ?_; refine Qj (hK _ _ (Qz (Qy (Qy ?_)))); clear hK K; refine Qx (fun K hK => ?_); refine Qq rfl rfl rfl ?_; refine Q1 rfl rfl rfl rfl ?_; refine QV rfl rfl rfl (by with_reducible first | exact fW0 | exact fW1 | exact fT0 | exact fT1 | exact fT2 | exact fT3 | exact fR0 | exact fR1) rfl ?_; refine QJ rfl rfl rfl rfl rfl (by with_reducible first | exact lInt | exact lNat | exact lBool | exact lInts | exact lMat | exact lWhs) rfl ?_)
  refine X1 1 T.rows.length rfl rfl rfl (by decide) (by simp [hhl]) sMat.und rfl ?_
  (refine Qq rfl rfl rfl ?_; refine Qj (hK _ _ (Qz (Q2 ?_))); clear hK K)
  refine Ql (α := Nat) (fun i => i ≤ T.rows.length)
    (fun i => [(0, .own 0), (1, .ct (intC r)), (2, .ct (intC s)), (6, .own 4), (7, .ct (boolC (decide ((p + -T.den).sign = 0)))), (37, .ct (.ex T.hR)), (38, .ct (intC T.rows.length)), (39, .ct (intC i))])
    (fun i => (4, .box 94 (whCs p)) :: tb T (pvRows T r s i) T.bas T.col T.den) (fun i => T.rows.length - i) 0 (Nat.zero_le _) (by exact QZ (by rw [pvRows_zero]; rfl) ⟨rfl, rfl, rfl, rfl, rfl, rfl, rfl, rfl, trivial⟩) ?_
  intro i hi
  dsimp only at hi ⊢
  have hrl := pvRows_len T r s i
  (refine Qy (Qx fun K hK => ?_); refine Qw ilss rfl rfl rfl rfl ?_; refine Qj (hK _ _ (Qz (Qy ?_))); clear hK K)
  refine Q0 rfl (fun h => ?_) (fun h => ?_)
  · have hi2 : i < T.rows.length := by omega
    have hrow := hF.row i hi2
    have ki : (i : Int).toNat * 1 = i := by omega
    have eline := pvRows_at T r s i i hi2 (.inl (Nat.le_refl _))
    have erow := pvRows_at T r s i r hr2 (by omega)
    have sf := hS i s
    generalize hf : T.at i s = f at *
    have eskip := pvRows_skip T r s i
    (refine QU (Qz (Qy (Q2 (Qy (Qx fun K hK => ?_))))); refine Qq rfl rfl rfl ?_)
    refine Qi 1 T.rows.length rfl rfl rfl (by simp [hhl]) rfl sMat (by omega) (by omega) rfl ?_
    rw [ki]
    refine QJ rfl rfl rfl rfl (hl_get (by omega)) lWhs rfl ?_
    (refine Qv rfl rfl rfl ?_; refine Qv rfl rfl rfl ?_; refine Qj (hK _ _ (Qz (Qy ?_))); clear hK K; refine Qx (fun K hK => ?_); refine Qq rfl rfl rfl ?_; refine Qq rfl rfl rfl ?_)
    refine Qi (i + 10) (T.col.length + 1) rfl rfl (lines_get (by omega) (by omega)) (by rw [whs_len, eline, hrow]) rfl sWhs (by omega) (by omega) rfl ?_
    rw [ks]
    refine ldWh rfl rfl rfl (lines_get (by omega) (by omega)) rfl (by rw [eline]; omega) lWh rfl ?_
    rw [eline, show (T.rows.getD i []).getD s 0 = f from hf]
    (refine Qd 5 rfl rfl (by with_reducible exact zvWh) rfl (by exact lines_lt 10 _ _ 5 (by decide)) rfl ?_; refine Qa 2 rfl rfl rfl rfl rfl (by with_reducible first | exact szWh | exact szRow) rfl rfl ?_; refine Qj (hK _ _ (Qz (Qy (Qy ?_)))); clear hK K; refine Qx (fun K hK => ?_); refine Qq rfl rfl rfl ?_; refine Qq rfl rfl rfl ?_; refine Qw ieql rfl rfl rfl rfl ?_; refine Qq rfl rfl rfl ?_)
    refine (fun (cont : ∀ b : Bool, (b = true → i = r ∨ (p = T.den ∧ f = 0)) → (b = false → i ≠ r) → Go.Own.Fin _ [(58, .ct (boolC b)), (0, .own 0), (1, .ct (intC r)), (2, .ct (intC s)), (6, .own 4), (7, .ct (boolC (decide ((p + -T.den).sign = 0)))), (8, .ct (intC i)), (9, .ct (.ex (T.hl.getD i default))), (10, .own 5), (37, .ct (.ex T.hR)), (38, .ct (intC T.rows.length)), (39, .ct (intC i))] ((5, .box 94 (whCs f)) :: (4, .box 94 (whCs p)) :: tb T (pvRows T r s i) T.bas T.col T.den) K) => ?_) (fun b hb1 hb2 => hK _ _ ?_)
    · clear hK
      refine Qg 51 rfl (fun h1 => ?_) (fun h1 => ?_)
      · (refine Qk rfl rfl rfl ?_; refine Qk rfl rfl rfl ?_; refine Qk rfl rfl rfl ?_; refine Qk rfl rfl rfl ?_; refine Qk rfl rfl rfl ?_; refine Qk rfl rfl rfl ?_; refine Q7 rfl rfl rfl rfl ?_)
        exact Qj (X2 (cont true (fun _ => .inl (by omega)) (fun h => by cases h)) ⟨rfl, rfl, rfl, rfl, rfl, rfl, rfl, rfl, rfl, rfl, rfl, rfl, trivial⟩)
      · have hir : i ≠ r := fun e => h1 (by omega)
        (refine Qq rfl rfl rfl ?_; refine Qq rfl rfl rfl ?_)
        refine Qg 53 rfl (fun h2 => ?_) (fun h2 => ?_)
        · (refine Qp (n := 2) rfl rfl rfl rfl rfl (by with_reducible first | exact lWh | exact lRow) rfl ?_)
          refine QX gosign (sign_ok f) rfl rfl rfl rfl ?_
          (refine Qw ieql rfl rfl rfl rfl ?_; refine Q7 rfl rfl rfl rfl ?_; refine Q6 rfl rfl rfl rfl ?_)
          refine Qj (X2 (cont (decide (f.sign = 0)) (fun h => .inr ⟨?_, sgn_eq.1 (of_decide_eq_true h)⟩) (fun _ => hir)) ⟨rfl, rfl, rfl, rfl, rfl, rfl, rfl, rfl, rfl, rfl, rfl, rfl, trivial⟩)
          have := sgn_eq.1 h2; omega
        · (refine Qk rfl rfl rfl ?_; refine Qk rfl rfl rfl ?_; refine Qk rfl rfl rfl ?_; refine Q6 rfl rfl rfl rfl ?_; refine Q6 rfl rfl rfl rfl ?_)
          exact Qj (X2 (cont false (fun h => by cases h) (fun _ => hir)) ⟨rfl, rfl, rfl, rfl, rfl, rfl, rfl, rfl, rfl, rfl, rfl, rfl, trivial⟩)
    clear hK K
    (refine Qz ?_)
    refine X0 rfl (fun hb => ?_) (fun hb => ?_)
    · have hskip : pvRows T r s (i + 1) = pvRows T r s i := eskip (by
        rcases hb1 hb with h | ⟨h, h'⟩
        · exact .inl h
        · exact .inr (by rw [hp, h]; exact pvRow_same (by omega) (by rw [h'] at hf; exact hf)))
      (refine Qe (Qz (Qx fun K hK => ?_)); refine Qw (iadd (by omega) (by omega)) rfl rfl rfl rfl ?_; refine Qq rfl rfl rfl ?_; refine Qj (hK _ _ (Q5 ?_)); clear hK K)
      refine Q8 (i + 1) (by omega) (by omega) (by exact X3 5 (QZ (by rw [hskip]; exact del5) ⟨rfl, rfl, rfl, rfl, rfl, rfl, rfl, by simp only [Int.natCast_add]; rfl, trivial⟩))
    · have hir := hb2 hb
      clear hb1 hb2 hb eskip
      have edone := pvRows_set T r s i hi2 hir
      rw [hp] at edone
      have erowR : ∀ y, ((pvRows T r s i).set i y).getD r [] = T.rows.getD r [] := fun y => by rw [set_getD (by omega), if_neg hir]; exact erow
      have elineI : ∀ y, ((pvRows T r s i).set i y).getD i [] = y := fun y => by rw [set_getD (by omega), if_pos rfl]
      have hslen : ∀ y, ((pvRows T r s i).set i y).length = T.rows.length := fun y => by rw [List.length_set, hrl]
      (refine QU (Qz (Qy (Qy (Qx fun K hK => ?_)))); refine Qq rfl rfl rfl ?_)
      refine X1 (i + 10) (T.col.length + 1) rfl rfl (lines_get (by omega) (by omega)) (by decide) (by rw [whs_len, eline, hrow]) sWhs.und rfl ?_
      (refine Qq rfl rfl rfl ?_; refine Qj (hK _ _ (Qz (Q2 ?_))); clear hK K)
      have hs0 : pvPre p T.den s (T.rows.getD r []) (T.rows.getD i []) 0 = T.rows.getD i [] := pvPre_zero ..
      have hst0 : (pvRows T r s i).set i (T.rows.getD i []) = pvRows T r s i := by
        rw [← eline]
        apply List.ext_getElem (by simp)
        intro j h1 h2
        rw [List.getElem_set]
        split
        · rename_i e; subst e; simp [List.getD_eq_getElem?_getD, h2]
        · rfl
      refine Ql (α := Nat) (fun q => q ≤ T.col.length + 1)
        (fun q => [(0, .own 0), (1, .ct (intC r)), (2, .ct (intC s)), (6, .own 4), (7, .ct (boolC (decide ((p + -T.den).sign = 0)))), (8, .ct (intC i)), (9, .ct (.ex (T.hl.getD i default))), (10, .own 5), (37, .ct (.ex T.hR)), (38, .ct (intC T.rows.length)), (39, .ct (intC i)), (60, .ct (intC ((T.col.length + 1 : Nat) : Int))), (61, .ct (intC q))])
        (fun q => (5, .box 94 (whCs f)) :: (4, .box 94 (whCs p)) :: tb T ((pvRows T r s i).set i (pvPre p T.den s (T.rows.getD r []) (T.rows.getD i []) q)) T.bas T.col T.den)
        (fun q => T.col.length + 1 - q) 0 (Nat.zero_le _) (by exact QZ (by rw [hs0, hst0]) ⟨rfl, rfl, rfl, rfl, rfl, rfl, rfl, rfl, rfl, rfl, rfl, rfl, rfl, trivial⟩) ?_
      intro q hq
      dsimp only at hq ⊢
      have hpl := pvPre_len p T.den s (T.rows.getD r []) (T.rows.getD i []) q
      have hpat := pvPre_at p T.den s (T.rows.getD r []) (T.rows.getD i []) q
      have hpskip := pvPre_skip p T.den s (T.rows.getD r []) (T.rows.getD i []) q
      have hpset := pvPre_set p T.den s (T.rows.getD r []) (T.rows.getD i []) q
      have hpz : q ≠ s → pvZ p T.den s (T.rows.getD r []) (T.rows.getD i []) q = ((T.rows.getD i []).getD q 0 * p + -((T.rows.getD r []).getD q 0 * f)).tdiv T.den := fun h => by
        unfold pvZ; rw [if_neg h, show (T.rows.getD i []).getD s 0 = f from hf]
      have hpz0 : q ≠ s → (T.rows.getD i []).getD q 0 = 0 → (f = 0 ∨ (T.rows.getD r []).getD q 0 = 0) → pvZ p T.den s (T.rows.getD r []) (T.rows.getD i []) q = (T.rows.getD i []).getD q 0 := fun h h1 h2 => pvZ_zero h h1 (by rw [show (T.rows.getD i []).getD s 0 = f from hf]; exact h2)
      have hpdone := pvPre_done p T.den s (T.rows.getD r []) (T.rows.getD i [])
      generalize hPP : pvPre p T.den s (T.rows.getD r []) (T.rows.getD i []) q = cur at *
      (refine Qy (Qx fun K hK => ?_); refine Qw ilss rfl rfl rfl rfl ?_; refine Qj (hK _ _ (Qz (Qy ?_))); clear hK K)
      refine Q0 rfl (fun h2 => ?_) (fun h2 => ?_)
      · have hq2 : q < T.col.length + 1 := by omega
        have kq : (q : Int).toNat * 2 = q * 2 := by omega
        have hget : bget (linesB 10 T.hl ((pvRows T r s i).set i cur)) (i + 10) = some (.rowx (T.hl.getD i default) 94 2 (whs cur)) := by
          have := lines_get (k := 10) (hl := T.hl) (zs := (pvRows T r s i).set i cur) (i := i) (by omega) (by rw [hslen]; omega)
          rwa [elineI] at this
        have hgetr : bget (linesB 10 T.hl ((pvRows T r s i).set i cur)) (r + 10) = some (.rowx (T.hl.getD r default) 94 2 (whs (T.rows.getD r []))) := by
          have := lines_get (k := 10) (hl := T.hl) (zs := (pvRows T r s i).set i cur) (i := r) (by omega) (by rw [hslen]; omega)
          rwa [erowR] at this
        have ecur := hpat q (by omega) (.inl (Nat.le_refl _))
        have sz := hS i q
        have sr := hS r q
        have hsz : (T.rows.getD i []).getD q 0 = T.at i q := rfl
        have hsr : (T.rows.getD r []).getD q 0 = T.at r q := rfl
        rw [hsz] at ecur hpz hpz0
        rw [hsr] at hpz hpz0
        generalize T.at i q = z at *
        generalize T.at r q = y at *
        (refine QU (Qz (Qy (Q2 (Qy (Qx fun K hK => ?_))))); refine Qq rfl rfl rfl ?_; refine Qv rfl rfl rfl ?_; refine Qj (hK _ _ (Qz (Qy ?_))); clear hK K; refine Qx (fun K hK => ?_); refine Qq rfl rfl rfl ?_; refine Qq rfl rfl rfl ?_; refine Qw ineq rfl rfl rfl rfl ?_; refine Qq rfl rfl rfl ?_)
        refine (fun (cont : ∀ b : Bool, (b = true → q ≠ s) → (b = false → q = s ∨ pvZ p T.den s (T.rows.getD r []) (T.rows.getD i []) q = z) → Go.Own.Fin _ [(93, .ct (boolC b)), (0, .own 0), (1, .ct (intC r)), (2, .ct (intC s)), (6, .own 4), (7, .ct (boolC (decide ((p + -T.den).sign = 0)))), (8, .ct (intC i)), (9, .ct (.ex (T.hl.getD i default))), (10, .own 5), (11, .ct (intC q)), (37, .ct (.ex T.hR)), (38, .ct (intC T.rows.length)), (39, .ct (intC i)), (60, .ct (intC ((T.col.length + 1 : Nat) : Int))), (61, .ct (intC q))] ((5, .box 94 (whCs f)) :: (4, .box 94 (whCs p)) :: tb T ((pvRows T r s i).set i cur) T.bas T.col T.den) K) => ?_) (fun b hb1 hb2 => hK _ _ ?_)
        · clear hK
          refine Qg 67 rfl (fun h1 => ?_) (fun h1 => ?_)
          · have hqs : q ≠ s := fun e => h1 (by omega)
            (refine Qq rfl rfl rfl ?_; refine Qq rfl rfl rfl ?_)
            refine Qi (i + 10) (T.col.length + 1) rfl rfl hget (by rw [whs_len, hpl, hrow]) rfl sWhs (by omega) (by omega) rfl ?_
            rw [kq]
            refine ldWh rfl rfl rfl hget rfl (by omega) lWh rfl ?_
            rw [ecur]
            refine QX gosign (sign_ok z) rfl rfl rfl rfl ?_
            (refine Qw ineq rfl rfl rfl rfl ?_; refine Qq rfl rfl rfl ?_)
            refine Qg 74 rfl (fun h3 => ?_) (fun h3 => ?_)
            · (refine Qk rfl rfl rfl ?_; refine Qk rfl rfl rfl ?_; refine Qk rfl rfl rfl ?_; refine Qk rfl rfl rfl ?_; refine Qk rfl rfl rfl ?_; refine Qk rfl rfl rfl ?_; refine Qk rfl rfl rfl ?_; refine Qk rfl rfl rfl ?_; refine Qk rfl rfl rfl ?_; refine Qk rfl rfl rfl ?_; refine Qk rfl rfl rfl ?_; refine Qk rfl rfl rfl ?_; refine Qk rfl rfl rfl ?_; refine Qk rfl rfl rfl ?_; refine Qk rfl rfl rfl ?_; refine Qk rfl rfl rfl ?_; refine Qk rfl rfl rfl ?_; refine Q7 rfl rfl rfl rfl ?_; refine Q7 rfl rfl rfl rfl ?_)
              exact Qj (X2 (cont true (fun _ => hqs) (fun h => by cases h)) ⟨rfl, rfl, rfl, rfl, rfl, rfl, rfl, rfl, rfl, rfl, rfl, rfl, rfl, rfl, rfl, trivial⟩)
            · have hz0 : z = 0 := sgn_eq.1 (by omega)
              (refine Qp (n := 2) rfl rfl rfl rfl rfl (by with_reducible first | exact lWh | exact lRow) rfl ?_)
              refine QX gosign (sign_ok f) rfl rfl rfl rfl ?_
              (refine Qw ineq rfl rfl rfl rfl ?_; refine Qq rfl rfl rfl ?_)
              refine Qg 78 rfl (fun h4 => ?_) (fun h4 => ?_)
              · (refine Qq rfl rfl rfl ?_; refine Q1 rfl rfl rfl rfl ?_; refine QV rfl rfl rfl (by with_reducible first | exact fW0 | exact fW1 | exact fT0 | exact fT1 | exact fT2 | exact fT3 | exact fR0 | exact fR1) rfl ?_; refine QJ rfl rfl rfl rfl rfl (by with_reducible first | exact lInt | exact lNat | exact lBool | exact lInts | exact lMat | exact lWhs) rfl ?_; refine Qq rfl rfl rfl ?_)
                refine Qi 1 T.rows.length rfl rfl rfl (by simp [hhl]) rfl sMat (by omega) (by omega) rfl ?_
                rw [kr]
                refine QJ rfl rfl rfl rfl (hl_get (by omega)) lWhs rfl ?_
                (refine Qq rfl rfl rfl ?_)
                refine Qi (r + 10) (T.col.length + 1) rfl rfl hgetr (by rw [whs_len, hrowr]) rfl sWhs (by omega) (by omega) rfl ?_
                rw [kq]
                refine ldWh rfl rfl rfl hgetr rfl (by omega) lWh rfl ?_
                rw [hsr]
                refine QX gosign (sign_ok y) rfl rfl rfl rfl ?_
                (refine Qw ineq rfl rfl rfl rfl ?_; refine Q7 rfl rfl rfl rfl ?_; refine Q6 rfl rfl rfl rfl ?_; refine Q7 rfl rfl rfl rfl ?_)
                exact Qj (X2 (cont (decide (y.sign ≠ 0)) (fun _ => hqs) (fun h => .inr (hpz0 hqs hz0 (.inr (sgn_eq.1 (by have := of_decide_eq_false h; omega)))))) ⟨rfl, rfl, rfl, rfl, rfl, rfl, rfl, rfl, rfl, rfl, rfl, rfl, rfl, rfl, rfl, trivial⟩)
              · (refine Qk rfl rfl rfl ?_; refine Qk rfl rfl rfl ?_; refine Qk rfl rfl rfl ?_; refine Qk rfl rfl rfl ?_; refine Qk rfl rfl rfl ?_; refine Qk rfl rfl rfl ?_; refine Qk rfl rfl rfl ?_; refine Qk rfl rfl rfl ?_; refine Qk rfl rfl rfl ?_; refine Qk rfl rfl rfl ?_; refine Qk rfl rfl rfl ?_; refine Qk rfl rfl rfl ?_; refine Q6 rfl rfl rfl rfl ?_; refine Q6 rfl rfl rfl rfl ?_; refine Q7 rfl rfl rfl rfl ?_)
                exact Qj (X2 (cont false (fun h => by cases h) (fun _ => .inr (hpz0 hqs hz0 (.inl (sgn_eq.1 (by omega)))))) ⟨rfl, rfl, rfl, rfl, rfl, rfl, rfl, rfl, rfl, rfl, rfl, rfl, rfl, rfl, rfl, trivial⟩)
          · (refine Qk rfl rfl rfl ?_; refine Qk rfl rfl rfl ?_; refine Qk rfl rfl rfl ?_; refine Qk rfl rfl rfl ?_; refine Qk rfl rfl rfl ?_; refine Qk rfl rfl rfl ?_; refine Qk rfl rfl rfl ?_; refine Qk rfl rfl rfl ?_; refine Qk rfl rfl rfl ?_; refine Qk rfl rfl rfl ?_; refine Qk rfl rfl rfl ?_; refine Qk rfl rfl rfl ?_; refine Qk rfl rfl rfl ?_; refine Qk rfl rfl rfl ?_; refine Qk rfl rfl rfl ?_; refine Qk rfl rfl rfl ?_; refine Qk rfl rfl rfl ?_; refine Qk rfl rfl rfl ?_; refine Qk rfl rfl rfl ?_; refine Qk rfl rfl rfl ?_; refine Qk rfl rfl rfl ?_; refine Qk rfl rfl rfl ?_; refine Qk rfl rfl rfl ?_; refine Qk rfl rfl rfl ?_; refine Qk rfl rfl rfl ?_; refine Q6 rfl rfl rfl rfl ?_)
            exact Qj (X2 (cont false (fun h => by cases h) (fun _ => .inl (by omega))) ⟨rfl, rfl, rfl, rfl, rfl, rfl, rfl, rfl, rfl, rfl, rfl, rfl, rfl, rfl, rfl, trivial⟩)
        clear hK K
        (refine Qz ?_)
        refine X0 rfl (fun hb => ?_) (fun hb => ?_)
        · have hqs := hb1 hb
          clear hb1 hb2 hb
          (refine Qy ?_)
          refine Xq (by with_reducible exact mixed) 23 (.p 0 (.p 1 (.p 2 (.p 3 (.p 4 (.p 8 (.p 9 (.p 10 (.p 12 (.p 15 (.f 5 (.f 6 (.f 11 (.p 13 (.f 14 (.p 16 (.f 17 (.f 18 (.m 7 (.m 19 (.m 20 (.m 21 (.p 22 (.a 23 .done)))))))))))))))))))))))) (by kernel_rfl) (fun K hK => ?_)
          (refine Qq rfl rfl rfl ?_; refine Qq rfl rfl rfl ?_; refine Qq rfl rfl rfl ?_; refine Qq rfl rfl rfl ?_)
          refine Qi (i + 10) (T.col.length + 1) rfl rfl hget (by rw [whs_len, hpl, hrow]) rfl sWhs (by omega) (by omega) rfl ?_
          rw [kq]
          (refine Qq rfl rfl rfl ?_; refine Q1 rfl rfl rfl rfl ?_; refine QV rfl rfl rfl (by with_reducible first | exact fW0 | exact fW1 | exact fT0 | exact fT1 | exact fT2 | exact fT3 | exact fR0 | exact fR1) rfl ?_; refine Qq rfl rfl rfl ?_; refine Qq rfl rfl rfl ?_)
          refine ldWh rfl rfl rfl hget rfl (by omega) lWh rfl ?_
          rw [ecur]
          (refine Qp (n := 2) rfl rfl rfl rfl rfl (by with_reducible first | exact lWh | exact lRow) rfl ?_; refine QJ rfl rfl rfl rfl rfl (by with_reducible first | exact lInt | exact lNat | exact lBool | exact lInts | exact lMat | exact lWhs) rfl ?_)
          refine Qi 1 T.rows.length rfl rfl rfl (by simp [hhl]) rfl sMat (by omega) (by omega) rfl ?_
          rw [kr]
          refine QJ rfl rfl rfl rfl (hl_get (by omega)) lWhs rfl ?_
          refine Qi (r + 10) (T.col.length + 1) rfl rfl hgetr (by rw [whs_len, hrowr]) rfl sWhs (by omega) (by omega) rfl ?_
          rw [kq]
          refine ldWh rfl rfl rfl hgetr rfl (by omega) lWh rfl ?_
          rw [hsr]
          (refine Qp (n := 2) rfl rfl rfl rfl rfl (by with_reducible first | exact lWh | exact lRow) rfl ?_)
          refine QX gotimes (times_ok z p (by omega)) rfl rfl rfl rfl ?_
          refine QX gotimes (times_ok y f (by omega)) rfl rfl rfl rfl ?_
          refine QX gominus (minus_ok _) rfl rfl rfl rfl ?_
          have m1 := mul_short sz sp
          have m2 := neg_short (mul_short sr sf)
          refine QX goplus (plus_ok _ _ (by omega) (by omega)) rfl rfl rfl rfl ?_
          have m3 : (limbs (z * p + -(y * f)).natAbs).length ≤ 121 := by
            refine Nat.le_trans (limbs_len_mono (Int.natAbs_add_le _ _)) (limbs_length_le ?_)
            have a1 := lt_of_limbs_length m1
            have a2 := lt_of_limbs_length m2
            have : (1073741824 : Nat) ^ 121 = 1073741824 ^ 120 * 1073741824 := rfl
            omega
          generalize z * p + -(y * f) = v1 at *
          refine Qi (i + 10) (T.col.length + 1) rfl rfl hget (by rw [whs_len, hpl, hrow]) rfl sWhs (by omega) (by omega) rfl ?_
          rw [kq]
          refine stWhX rfl rfl hget rfl (by omega) szWh ?_
          rw [set_line5 (cur.set q v1) (by omega) (by rw [hslen]; omega), List.set_set]
          have hget2 : bget (linesB 10 T.hl ((pvRows T r s i).set i (cur.set q v1))) (i + 10) = some (.rowx (T.hl.getD i default) 94 2 (whs (cur.set q v1))) := by
            have := lines_get (k := 10) (hl := T.hl) (zs := (pvRows T r s i).set i (cur.set q v1)) (i := i) (by omega) (by rw [hslen]; omega)
            rwa [elineI] at this
          have ecur2 : (cur.set q v1).getD q 0 = v1 := by rw [getD_set (by omega), if_pos rfl]
          (refine Qj (hK _ _ (Qz ?_)); clear hK K)
          refine Xq (by with_reducible exact mixed) 12 (.p 0 (.p 1 (.p 2 (.p 3 (.p 4 (.p 6 (.p 7 (.p 8 (.f 5 (.f 9 (.m 10 (.p 11 (.a 12 .done))))))))))))) (by kernel_rfl) (fun K hK => ?_)
          (refine Qq rfl rfl rfl ?_; refine Qq rfl rfl rfl ?_; refine Qq rfl rfl rfl ?_; refine Qq rfl rfl rfl ?_)
          refine Qi (i + 10) (T.col.length + 1) rfl rfl hget2 (by rw [whs_len, List.length_set, hpl, hrow]) rfl sWhs (by omega) (by omega) rfl ?_
          rw [kq]
          (refine Qq rfl rfl rfl ?_; refine Q1 rfl rfl rfl rfl ?_; refine QV rfl rfl rfl (by with_reducible first | exact fW0 | exact fW1 | exact fT0 | exact fT1 | exact fT2 | exact fT3 | exact fR0 | exact fR1) rfl ?_)
          refine ldWh rfl rfl rfl hget2 rfl (by rw [List.length_set]; omega) lWh rfl ?_
          rw [ecur2]
          refine X7 (n := 2) rfl rfl rfl rfl (Nat.le_of_ble_eq_true rfl) (by with_reducible exact lWh) rfl ?_
          refine QX goover (over_ok v1 T.den hD (by omega) (by omega)) rfl rfl rfl rfl ?_
          refine Qi (i + 10) (T.col.length + 1) rfl rfl hget2 (by rw [whs_len, List.length_set, hpl, hrow]) rfl sWhs (by omega) (by omega) rfl ?_
          rw [kq]
          refine stWhX rfl rfl hget2 rfl (by rw [List.length_set]; omega) szWh ?_
          rw [set_line5 _ (by omega) (by rw [hslen]; omega), List.set_set, List.set_set]
          have hpset2 := hpset (by omega) hqs
          rw [hpz hqs] at hpset2
          rw [hpset2]
          (refine Qj (hK _ _ (Qz ?_)); clear hK K; refine Qx (fun K hK => ?_); refine Qw (iadd (by omega) (by omega)) rfl rfl rfl rfl ?_; refine Qq rfl rfl rfl ?_; refine Qj (hK _ _ (Q5 ?_)); clear hK K)
          refine Q8 (q + 1) (by omega) (by omega) (by exact QZ rfl ⟨rfl, rfl, rfl, rfl, rfl, rfl, rfl, rfl, rfl, rfl, rfl, rfl, by simp only [Int.natCast_add]; rfl, trivial⟩)
        · have hsk := hpskip ((hb2 hb).imp id (fun h => by rw [h, hsz]))
          (refine QU (Qz (Qx fun K hK => ?_)); refine Qw (iadd (by omega) (by omega)) rfl rfl rfl rfl ?_; refine Qq rfl rfl rfl ?_; refine Qj (hK _ _ (Q5 ?_)); clear hK K)
          refine Q8 (q + 1) (by omega) (by omega) (by exact QZ (by rw [hsk]) ⟨rfl, rfl, rfl, rfl, rfl, rfl, rfl, rfl, rfl, rfl, rfl, rfl, by simp only [Int.natCast_add]; rfl, trivial⟩)
      · have hq' : q = (T.rows.getD i []).length := by omega
        subst hPP
        rw [hq'] at hpl ⊢
        have hdone := hpdone (by omega)
        rw [show (T.rows.getD i []).getD s 0 = f from hf] at hdone
        have hget : bget (linesB 10 T.hl ((pvRows T r s i).set i (pvPre p T.den s (T.rows.getD r []) (T.rows.getD i []) (T.rows.getD i []).length))) (i + 10) = some (.rowx (T.hl.getD i default) 94 2 (whs (pvPre p T.den s (T.rows.getD r []) (T.rows.getD i []) (T.rows.getD i []).length))) := by
          have := lines_get (k := 10) (hl := T.hl) (zs := (pvRows T r s i).set i (pvPre p T.den s (T.rows.getD r []) (T.rows.getD i []) (T.rows.getD i []).length)) (i := i) (by omega) (by rw [hslen]; omega)
          rwa [elineI] at this
        clear hpat hpskip hpset hpz hpz0 hpdone
        generalize pvPre p T.den s (T.rows.getD r []) (T.rows.getD i []) (T.rows.getD i []).length = cur at *
        (refine Qe (Qz (Qx fun K hK => ?_)); refine Qq rfl rfl rfl ?_; refine Qq rfl rfl rfl ?_; refine Qp (n := 2) rfl rfl rfl rfl rfl (by with_reducible first | exact lWh | exact lRow) rfl ?_)
        refine QX gominus (minus_ok f) rfl rfl rfl rfl ?_
        refine Qi (i + 10) (T.col.length + 1) rfl rfl hget (by rw [whs_len, hpl, hrow]) rfl sWhs (by omega) (by omega) rfl ?_
        rw [ks]
        refine stWhX rfl rfl hget rfl (by omega) szWh ?_
        rw [set_line5 _ (by omega) (by rw [hslen]; omega), List.set_set, hdone, edone]
        (refine Qj (hK _ _ (Qz ?_)); clear hK K; refine Qx (fun K hK => ?_); refine Qw (iadd (by omega) (by omega)) rfl rfl rfl rfl ?_; refine Qq rfl rfl rfl ?_; refine Qj (hK _ _ (Q5 ?_)); clear hK K)
        refine Q8 (i + 1) (by omega) (by omega) (by exact X3 5 (QZ del5 ⟨rfl, rfl, rfl, rfl, rfl, rfl, rfl, by simp only [Int.natCast_add]; rfl, trivial⟩))
  · have hi' : i = T.rows.length := by omega
    subst hi'
    have erow := pvRows_at T r s T.rows.length r hr2 (.inr rfl)
    have hget : bget (linesB 10 T.hl (pvRows T r s T.rows.length)) (r + 10) = some (.rowx (T.hl.getD r default) 94 2 (whs (T.rows.getD r []))) := by
      have := lines_get (k := 10) (hl := T.hl) (zs := pvRows T r s T.rows.length) (i := r) (by omega) (by omega)
      rwa [erow] at this
    (refine Qe (Qz (Qy ?_)))
    refine Xq (by with_reducible exact mixed) 13 (.p 0 (.p 1 (.p 2 (.p 4 (.p 7 (.p 8 (.p 9 (.p 10 (.f 3 (.p 5 (.f 6 (.f 11 (.p 12 (.a 13 .done)))))))))))))) (by kernel_rfl) (fun K hK => ?_)
    (refine Qq rfl rfl rfl ?_; refine Q1 rfl rfl rfl rfl ?_; refine QV rfl rfl rfl (by with_reducible first | exact fW0 | exact fW1 | exact fT0 | exact fT1 | exact fT2 | exact fT3 | exact fR0 | exact fR1) rfl ?_; refine Qq rfl rfl rfl ?_; refine Qq rfl rfl rfl ?_; refine Qq rfl rfl rfl ?_; refine Q1 rfl rfl rfl rfl ?_; refine QV rfl rfl rfl (by with_reducible first | exact fW0 | exact fW1 | exact fT0 | exact fT1 | exact fT2 | exact fT3 | exact fR0 | exact fR1) rfl ?_; refine QJ rfl rfl rfl rfl rfl (by with_reducible first | exact lInt | exact lNat | exact lBool | exact lInts | exact lMat | exact lWhs) rfl ?_)
    refine Qi 1 T.rows.length rfl rfl rfl (by simp [hhl]) rfl sMat (by omega) (by omega) rfl ?_
    rw [kr]
    refine QJ rfl rfl rfl rfl (hl_get (by omega)) lWhs rfl ?_
    refine X7 (n := 2) rfl rfl rfl rfl (Nat.le_of_ble_eq_true rfl) (by with_reducible exact lWh) rfl ?_
    refine Qi (r + 10) (T.col.length + 1) rfl rfl hget (by rw [whs_len, hrowr]) rfl sWhs (by omega) (by omega) rfl ?_
    rw [ks]
    refine stWhX (c := T.den) rfl rfl hget rfl (by omega) szWh ?_
    rw [set_line4 _ (by omega) (by omega)]
    have pos := pvt_pos (T := T) (r := r) (s := s) hp
    have neg := pvt_neg (T := T) (r := r) (s := s) hp
    have hRl : ((pvRows T r s T.rows.length).set r ((T.rows.getD r []).set s T.den)).length = T.rows.length := by rw [List.length_set, hrl]
    have hRrow : ∀ i, i < T.rows.length → (((pvRows T r s T.rows.length).set r ((T.rows.getD r []).set s T.den)).getD i []).length = T.col.length + 1 := fun i hi => by
      rw [set_getD (by omega)]
      split
      · rw [List.length_set, hrowr]
      · unfold pvRows
        rw [range_getD _ _ _ hi]
        split
        · rw [pvRow_len]; exact hF.row i hi
        · exact hF.row i hi
    generalize (pvRows T r s T.rows.length).set r ((T.rows.getD r []).set s T.den) = RR at *
    (refine Qj (hK _ _ (Qz (Qy ?_))); clear hK K)
    refine Xq (by with_reducible exact mixed) 25 (.p 0 (.p 1 (.p 2 (.p 4 (.p 5 (.p 6 (.p 7 (.p 9 (.p 10 (.p 11 (.p 12 (.p 14 (.p 17 (.p 18 (.p 19 (.p 21 (.f 3 (.f 8 (.f 13 (.p 15 (.f 16 (.f 20 (.p 22 (.f 23 (.p 24 (.a 25 (.p 26 (.a 27 .done)))))))))))))))))))))))))))) (by kernel_rfl) (fun K hK => ?_)
    (refine Qq rfl rfl rfl ?_; refine Q1 rfl rfl rfl rfl ?_; refine QV rfl rfl rfl (by with_reducible first | exact fW0 | exact fW1 | exact fT0 | exact fT1 | exact fT2 | exact fT3 | exact fR0 | exact fR1) rfl ?_; refine Qq rfl rfl rfl ?_; refine Qq rfl rfl rfl ?_; refine Q1 rfl rfl rfl rfl ?_; refine QV rfl rfl rfl (by with_reducible first | exact fW0 | exact fW1 | exact fT0 | exact fT1 | exact fT2 | exact fT3 | exact fR0 | exact fR1) rfl ?_; refine Qq rfl rfl rfl ?_; refine Qq rfl rfl rfl ?_; refine Q1 rfl rfl rfl rfl ?_; refine QV rfl rfl rfl (by with_reducible first | exact fW0 | exact fW1 | exact fT0 | exact fT1 | exact fT2 | exact fT3 | exact fR0 | exact fR1) rfl ?_; refine Qq rfl rfl rfl ?_; refine Qq rfl rfl rfl ?_; refine Q1 rfl rfl rfl rfl ?_; refine QV rfl rfl rfl (by with_reducible first | exact fW0 | exact fW1 | exact fT0 | exact fT1 | exact fT2 | exact fT3 | exact fR0 | exact fR1) rfl ?_; refine Qq rfl rfl rfl ?_; refine QJ rfl rfl rfl rfl rfl (by with_reducible first | exact lInt | exact lNat | exact lBool | exact lInts | exact lMat | exact lWhs) rfl ?_; refine QJ rfl rfl rfl rfl rfl (by with_reducible first | exact lInt | exact lNat | exact lBool | exact lInts | exact lMat | exact lWhs) rfl ?_; refine QJ rfl rfl rfl rfl rfl (by with_reducible first | exact lInt | exact lNat | exact lBool | exact lInts | exact lMat | exact lWhs) rfl ?_)
    refine Qi 3 T.col.length rfl rfl rfl (by simp) rfl sInts (by omega) (by omega) rfl ?_
    rw [ks1]
    refine QJ rfl rfl rfl rfl (ints_get (by omega)) lInt rfl ?_
    (refine QJ rfl rfl rfl rfl rfl (by with_reducible first | exact lInt | exact lNat | exact lBool | exact lInts | exact lMat | exact lWhs) rfl ?_)
    refine Qi 2 T.bas.length rfl rfl rfl (by simp) rfl sInts (by omega) (by omega) rfl ?_
    rw [kr]
    refine QJ rfl rfl rfl rfl (ints_get (by omega)) lInt rfl ?_
    refine Qi 2 T.bas.length rfl rfl rfl (by simp) rfl sInts (by omega) (by omega) rfl ?_
    rw [kr]
    refine Qn rfl rfl rfl rfl rfl zInt (by simp [Ent.cs]; omega) ?_
    simp only [Ent.setc, ints_set]
    refine Qi 3 T.col.length rfl rfl rfl (by simp) rfl sInts (by omega) (by omega) rfl ?_
    rw [ks1]
    refine Qn rfl rfl rfl rfl rfl zInt (by simp [Ent.cs]; omega) ?_
    simp only [Ent.setc, ints_set]
    have hcl : (T.col.set s (T.bas.getD r 0)).length = T.col.length := List.length_set ..
    generalize T.bas.set r (T.col.getD s 0) = bas' at *
    generalize T.col.set s (T.bas.getD r 0) = col' at *
    (refine Qj (hK _ _ (Qz (Qy ?_))); clear hK K; refine Qx (fun K hK => ?_); refine Qq rfl rfl rfl ?_; refine Qp (n := 2) rfl rfl rfl rfl rfl (by with_reducible first | exact lWh | exact lRow) rfl ?_; refine Q1 rfl rfl rfl rfl ?_; refine QV rfl rfl rfl (by with_reducible first | exact fW0 | exact fW1 | exact fT0 | exact fT1 | exact fT2 | exact fT3 | exact fR0 | exact fR1) rfl ?_)
    refine Ops.stNA (ds := whCs p) rfl rfl rfl rfl rfl (by exact szWh) (Nat.le_of_ble_eq_true rfl) ?_
    (refine Qj (hK _ _ (Qz (Qy (Qy ?_)))); clear hK K; refine Qx (fun K hK => ?_); refine QV rfl rfl rfl (by with_reducible first | exact fW0 | exact fW1 | exact fT0 | exact fT1 | exact fT2 | exact fT3 | exact fR0 | exact fR1) rfl ?_; refine QJ rfl rfl rfl rfl rfl (by with_reducible first | exact lInt | exact lNat | exact lBool | exact lInts | exact lMat | exact lWhs) rfl ?_; refine Qr rfl rfl rfl ?_; refine Qj (hK _ _ (Qz ?_)); clear hK K)
    refine X0 rfl (fun hb => ?_) (fun hb => ?_)
    · have hp0 : ¬ p < 0 := by simpa using hb
      (refine Q3 (QW ?_))
      refine XY 4 ?_
      refine X9 () [] rfl Qu rfl (fun j => ?_) trivial
      rw [pos hp0]
      exact congrArg (bget · j) (del4 (T := T) (rows := RR) (bas := bas') (col := col') (den := p)).symm
    · have hp0 : p < 0 := by simpa using hb
      (refine QU (Qz (Qy (Qx fun K hK => ?_))); refine Qq rfl rfl rfl ?_; refine Qp (n := 2) rfl rfl rfl rfl rfl (by with_reducible first | exact lWh | exact lRow) rfl ?_)
      refine QX gominus (minus_ok p) rfl rfl rfl rfl ?_
      (refine Q1 rfl rfl rfl rfl ?_; refine QV rfl rfl rfl (by with_reducible first | exact fW0 | exact fW1 | exact fT0 | exact fT1 | exact fT2 | exact fT3 | exact fR0 | exact fR1) rfl ?_)
      refine Ops.stNA (ds := whCs (-p)) rfl rfl rfl rfl rfl (by exact szWh) (Nat.le_of_ble_eq_true rfl) ?_
      (refine Qj (hK _ _ (Qz (Qy ?_))); clear hK K; refine Qx (fun K hK => ?_); refine Qq rfl rfl rfl ?_; refine Q1 rfl rfl rfl rfl ?_; refine QV rfl rfl rfl (by with_reducible first | exact fW0 | exact fW1 | exact fT0 | exact fT1 | exact fT2 | exact fT3 | exact fR0 | exact fR1) rfl ?_; refine QJ rfl rfl rfl rfl rfl (by with_reducible first | exact lInt | exact lNat | exact lBool | exact lInts | exact lMat | exact lWhs) rfl ?_)
      refine X1 1 T.rows.length rfl rfl rfl (by decide) (by simp [hhl]) sMat.und rfl ?_
      (refine Qq rfl rfl rfl ?_; refine Qj (hK _ _ (Qz (Q2 ?_))); clear hK K)
      refine Ql (α := Nat) (fun i => i ≤ T.rows.length)
        (fun i => [(190, .ct (.ex T.hR)), (191, .ct (intC T.rows.length)), (192, .ct (intC i))])
        (fun i => (4, .box 94 (whCs p)) :: tb T (negR RR i) bas' col' (-p)) (fun i => T.rows.length - i) 0 (Nat.zero_le _) (by exact QZ (by rw [negR_zero]; rfl) ⟨rfl, rfl, rfl, trivial⟩) ?_
      intro i hi
      (try dsimp only at hi ⊢)
      have hnl := negR_len RR i
      (refine Qy (Qx fun K hK => ?_); refine Qw ilss rfl rfl rfl rfl ?_; refine Qj (hK _ _ (Qz (Qy ?_))); clear hK K)
      refine Q0 rfl (fun h => ?_) (fun h => ?_)
      · have hi2 : i < T.rows.length := by omega
        have hrow := hRrow i hi2
        have ki : (i : Int).toNat * 1 = i := by omega
        have eline := negR_at RR i (by omega)
        have eset := negR_set RR i (by omega)
        have elineI : ∀ y, ((negR RR i).set i y).getD i [] = y := fun y => by rw [set_getD (by omega), if_pos rfl]
        have hslen : ∀ y, ((negR RR i).set i y).length = T.rows.length := fun y => by rw [List.length_set, hnl, hRl]
        have hst0 : (negR RR i).set i (RR.getD i []) = negR RR i := by
          rw [← eline]
          apply List.ext_getElem (by simp)
          intro j h1 h2
          rw [List.getElem_set]
          split
          · rename_i e; subst e; simp [List.getD_eq_getElem?_getD, h2]
          · rfl
        generalize RR.getD i [] = line at *
        (refine QU (Qz (Qy (Q2 (Qy (Qx fun K hK => ?_))))))
        refine Qi 1 T.rows.length rfl rfl rfl (by simp [hhl]) rfl sMat (by omega) (by omega) rfl ?_
        rw [ki]
        refine QJ rfl rfl rfl rfl (hl_get (by omega)) lWhs rfl ?_
        (refine Qv rfl rfl rfl ?_; refine Qj (hK _ _ (Qz (Qy ?_))); clear hK K; refine Qx (fun K hK => ?_); refine Qq rfl rfl rfl ?_)
        refine X1 (i + 10) (T.col.length + 1) rfl rfl (lines_get (by omega) (by omega)) (by decide) (by rw [whs_len, eline, hrow]) sWhs.und rfl ?_
        (refine Qq rfl rfl rfl ?_; refine Qj (hK _ _ (Qz (Q2 ?_))); clear hK K)
        refine Ql (α := Nat) (fun q => q ≤ T.col.length + 1)
          (fun q => [(190, .ct (.ex T.hR)), (191, .ct (intC T.rows.length)), (192, .ct (intC i)), (13, .ct (.ex (T.hl.getD i default))), (197, .ct (intC ((T.col.length + 1 : Nat) : Int))), (198, .ct (intC q))])
          (fun q => (4, .box 94 (whCs p)) :: tb T ((negR RR i).set i (negP line q)) bas' col' (-p)) (fun q => T.col.length + 1 - q) 0 (Nat.zero_le _) (by exact QZ (by rw [negP_zero, hst0]) ⟨rfl, rfl, rfl, rfl, rfl, rfl, trivial⟩) ?_
        intro q hq
        (try dsimp only at hq ⊢)
        have hpl := negP_len line q
        (refine Qy (Qx fun K hK => ?_); refine Qw ilss rfl rfl rfl rfl ?_; refine Qj (hK _ _ (Qz (Qy ?_))); clear hK K)
        refine Q0 rfl (fun h2 => ?_) (fun h2 => ?_)
        · have kq : (q : Int).toNat * 2 = q * 2 := by omega
          have ecur := negP_at line q (by omega)
          have pset := negP_set line q (by omega)
          have hget : bget (linesB 10 T.hl ((negR RR i).set i (negP line q))) (i + 10) = some (.rowx (T.hl.getD i default) 94 2 (whs (negP line q))) := by
            have := lines_get (k := 10) (hl := T.hl) (zs := (negR RR i).set i (negP line q)) (i := i) (by omega) (by rw [hslen]; omega)
            rwa [elineI] at this
          generalize negP line q = cur at *
          (refine QU (Qz (Qy (Q2 (Qy (Qx fun K hK => ?_))))); refine Qq rfl rfl rfl ?_; refine Qv rfl rfl rfl ?_; refine Qj (hK _ _ (Qz ?_)); clear hK K; refine Qx (fun K hK => ?_); refine Qq rfl rfl rfl ?_; refine Qq rfl rfl rfl ?_; refine Qq rfl rfl rfl ?_; refine Qq rfl rfl rfl ?_)
          refine Qi (i + 10) (T.col.length + 1) rfl rfl hget (by rw [whs_len, hpl, hrow]) rfl sWhs (by omega) (by omega) rfl ?_
          rw [kq]
          refine ldWh rfl rfl rfl hget rfl (by omega) lWh rfl ?_
          rw [ecur]
          refine QX gominus (minus_ok _) rfl rfl rfl rfl ?_
          refine Qi (i + 10) (T.col.length + 1) rfl rfl hget (by rw [whs_len, hpl, hrow]) rfl sWhs (by omega) (by omega) rfl ?_
          rw [kq]
          refine stWhX rfl rfl hget rfl (by omega) szWh ?_
          rw [set_line4 _ (by omega) (by rw [hslen]; omega), List.set_set, pset]
          (refine Qj (hK _ _ (Qz ?_)); clear hK K; refine Qx (fun K hK => ?_); refine Qw (iadd (by omega) (by omega)) rfl rfl rfl rfl ?_; refine Qq rfl rfl rfl ?_; refine Qj (hK _ _ (Q5 ?_)); clear hK K)
          refine Q8 (q + 1) (by omega) (by omega) (by exact QZ rfl ⟨rfl, rfl, rfl, rfl, rfl, by simp only [Int.natCast_add]; rfl, trivial⟩)
        · have hq' : q = line.length := by omega
          rw [hq', negP_done, eset]
          (refine Qe (Qz (Qx fun K hK => ?_)); refine Qw (iadd (by omega) (by omega)) rfl rfl rfl rfl ?_; refine Qq rfl rfl rfl ?_; refine Qj (hK _ _ (Q5 ?_)); clear hK K)
          refine Q8 (i + 1) (by omega) (by omega) (by exact QZ rfl ⟨rfl, rfl, by simp only [Int.natCast_add]; rfl, trivial⟩)
      · have hi' : i = RR.length := by omega
        rw [hi', negR_done]
        (refine Qe (Fin.thenExit (Fin.thenExit (Fin.blockE ?_))))
        refine XY 4 ?_
        refine Fin.endM () [] rfl Qu rfl (fun j => ?_) trivial
        rw [neg hp0]
        exact congrArg (bget · j) (del4 (T := T) (rows := RR.map negL) (bas := bas') (col := col') (den := -p)).symm
end Go.Proofs.YtdhmbgogmoaofaaGreat
namespace Go.Proofs.YtdhmbgogmoaofaaGreat
open Go.Own Go.Limbs
def beside (E : BL) : Bool := E.all fun p => Nat.ble 4 p.1 && Nat.blt p.1 10
theorem beside_get {E : BL} (h : beside E = true) {j : Nat} (hj : (bget E j).isSome = true) : 4 ≤ j ∧ j < 10 := by
  induction E with
  | nil => cases hj
  | cons p E ih =>
    obtain ⟨i, e⟩ := p
    simp only [beside, List.all_cons, Bool.and_eq_true] at h
    by_cases hij : i = j
    · subst hij
      exact ⟨Nat.le_of_ble_eq_true h.1.1, Nat.le_of_ble_eq_true h.1.2⟩
    · rw [bget_cons_ne _ _ hij] at hj
      exact ih h.2 hj
theorem tab_none {T : Tv} {j : Nat} (h1 : 4 ≤ j) (h2 : j < 10) : bget (tabB T) j = none := by
  unfold tabB
  rw [bget_cons_ne _ _ (by omega), bget_cons_ne _ _ (by omega), bget_cons_ne _ _ (by omega), bget_cons_ne _ _ (by omega)]
  exact lines_lt 10 _ _ j h2
theorem tab_swap {E : BL} (h : beside E = true) (T : Tv) (j : Nat) : bget (E ++ tabB T) j = bget (tabB T ++ E) j := by
  rw [bget_append, bget_append]
  cases h1 : bget E j with
  | none => cases bget (tabB T) j <;> rfl
  | some e =>
    have := beside_get h (j := j) (by rw [h1]; rfl)
    rw [tab_none this.1 this.2]; rfl
def kpT (j : Nat) : Bool := Nat.beq j 0 || (Nat.ble 4 j && Nat.blt j 10)
section
variable {X : Ctx} {L : AL} {B : BL} {ops : Array Oper} {K : Act → World → Prop} {r : Pl} {k : Kd}
  {x y z : Operand} {d : Nat} {t t2 t' : TypeId} {pos : String} {af : Array Edge} {g : Option (Nat × Bool)}
theorem Ops.reB {l : Pl} {B' : BL} (hB : ∀ j, bget B' j = bget B j) (h : Ops X ops l L B' K) : Ops X ops l L B K := fun a ρ w hI => h a ρ w (hI.bext hB)
theorem Xu {f : FuncId} {args : List Operand} {tys : Array TypeId} {As : List Sl} {T : Tv} {α : Type} {J : α → Prop} {R : α → CT} {T' : α → Tv} (E : BL) (hgo : InGo X.P f) (hok : OkM X.P f As (tabB T) [0] J (fun q => .ct (R q)) (fun q => tabB (T' q))) (hg : gd ops L g = some true) (hargs : evS L args = some As) (hn : Nat.blt d X.n = true)
    (hbor : ∀ gb, X.bor gb → X.S0 gb) (hB : B = E ++ tabB T) (hE : beside E = true) (hfix : ∀ p ∈ X.fix, (bget E p.1).isSome = true ∨ p.1 ∈ [0])
    (h : ∀ q, J q → Ops X ops r ((d, .ct (R q)) :: keepL kpT L) (E ++ tabB (T' q)) K) : Ops X ops (.cons ⟨some d, .call { callee := .value (.func f), args := args.toArray, argTypes := tys }, t, pos, af, g⟩ .any r) L B K := by
  subst hB
  refine Ops.callM E kpT hgo hok hg hargs hn hbor (tab_swap hE T) (fun j hj => ?_) (fun j hj => ?_) hfix (fun q j h => ?_) (fun q hq => ?_)
  · have := beside_get hE hj
    exact ⟨tab_none this.1 this.2, fun q => tab_none this.1 this.2⟩
  · unfold kpT at hj
    rw [Bool.or_eq_true, Bool.and_eq_true] at hj
    rcases hj with hj | ⟨h1, h2⟩
    · exact .inl (by rw [Nat.eq_of_beq_eq_true hj]; simp)
    · exact .inr fun q => tab_none (Nat.le_of_ble_eq_true h1) (Nat.le_of_ble_eq_true h2)
  · rcases h with h | ⟨_, h⟩ <;> cases h
  · exact Ops.reB (fun j => tab_swap hE (T' q) j) (h q hq)
end
structure Gd (T : Tv) : Prop where
  fit : Fit T
  short : Shrt T
  den : 0 < T.den
  dens : (limbs T.den.natAbs).length ≤ 60
def RunOk (gi : Nat) (T' : Tv) (s : Int) : Nat → Tv → Prop
  | 0, T => Gd T ∧ T = T' ∧ ((entS (T.rows.getD gi []) T.col T.col.length < 0 ∧ s = -1) ∨ (0 ≤ entS (T.rows.getD gi []) T.col T.col.length ∧ levS T (entS (T.rows.getD gi []) T.col T.col.length).toNat T.bas.length < 0 ∧ s = entS (T.rows.getD gi []) T.col T.col.length))
  | k + 1, T => Gd T ∧ 0 ≤ entS (T.rows.getD gi []) T.col T.col.length ∧ 0 ≤ levS T (entS (T.rows.getD gi []) T.col T.col.length).toNat T.bas.length ∧
      RunOk gi T' s k (pvt T (levS T (entS (T.rows.getD gi []) T.col T.col.length).toNat T.bas.length).toNat (entS (T.rows.getD gi []) T.col T.col.length).toNat)
theorem RunOk.gd {gi : Nat} {T' : Tv} {s : Int} {k : Nat} {T : Tv} (h : RunOk gi T' s k T) : Gd T := by
  cases k with
  | zero => exact h.1
  | succ k => exact h.1
theorem pvt_rows (T : Tv) (r s : Nat) : (pvt T r s).rows.length = T.rows.length := by
  unfold pvt
  dsimp only
  split
  · rw [List.length_map, List.length_set, pvRows_len]
  · rw [List.length_set, pvRows_len]
attribute [local irreducible] St Ops Go.Own.Fin Ok OkM
theorem gomaximize : InGo Tryz.prog 71 := InGo.of Tryz.func71 (by kernel_rfl) (by kernel_rfl)
set_option maxHeartbeats 4000000 in
theorem maximize_ok (T T' : Tv) (gi : Nat) (s : Int) (n : Nat) (hrun : RunOk gi T' s n T) (hgi : gi < T.rows.length) : OkM Tryz.prog 71 [.own 0, .ct (intC gi)] (tabB T) [0] (fun _ : Unit => True) (fun _ => .ct (intC s)) (fun _ => tabB T') := by
  refine OkM.enter Tryz.func71 rfl _ Tryz.ntmps71 rfl (tab_fx T) ?_
  intro S w ρ0 hbor
  have hfix : ∀ p ∈ (lentM Tryz.prog 22 S w (tabB T) [0] ρ0).fix, (bget [] p.1).isSome = true ∨ p.1 ∈ [0] := fun p hp => by
    obtain ⟨i, hi, rfl⟩ := List.mem_map.1 hp
    exact .inr hi
  (refine Qy (Qx fun K hK => ?_); refine Qv rfl rfl rfl ?_; refine Qj (hK _ _ (Qz (Q2 ?_))); clear hK K)
  refine Ql (α := Nat × Tv) (fun x => RunOk gi T' s x.1 x.2 ∧ gi < x.2.rows.length)
    (fun _ => [(0, .own 0), (1, .ct (intC gi))]) (fun x => tabB x.2) (fun x => x.1) (n, T) ⟨hrun, hgi⟩ (by exact QZ rfl ⟨rfl, rfl, trivial⟩) ?_
  rintro ⟨k, T1⟩ ⟨hr, hg1⟩
  dsimp only at hr hg1 ⊢
  have G := hr.gd
  have b1 := entS_bd (T1.rows.getD gi []) T1.col T1.col.length
  (refine Q2 (Qy (Qx fun K hK => ?_)); refine Qq rfl rfl rfl ?_; refine Qq rfl rfl rfl ?_)
  refine Xu [] goentering (entering_ok T1 G.fit gi hg1) rfl rfl rfl hbor rfl rfl hfix (fun _ _ => ?_)
  have hr' := hr
  generalize he : entS (T1.rows.getD gi []) T1.col T1.col.length = e at *
  (refine Qv rfl rfl rfl ?_; refine Qj (hK _ _ (Qz (Qy (Qy ?_)))); clear hK K; refine Qx (fun K hK => ?_); refine Qq rfl rfl rfl ?_; refine Qw ilss rfl rfl rfl rfl ?_; refine Qj (hK _ _ (Qz ?_)); clear hK K)
  refine Q0 rfl (fun h => ?_) (fun h => ?_)
  · cases k with
    | zero =>
      obtain ⟨-, rfl, h3⟩ := hr
      rw [he] at h3
      have hs : s = -1 := by omega
      subst hs
      (refine Qy (Qx fun K hK => ?_); refine Qv rfl rfl rfl ?_; refine Qj (hK _ _ (Qz (Q3 (QW (Q9 (QW (Q9 ?_))))))); clear hK K)
      refine X9 () [_] rfl (QQ rfl Qu) rfl (fun _ => rfl) trivial
    | succ k => exfalso; have := hr.2.1; omega
  · obtain ⟨m, rfl⟩ : ∃ m : Nat, e = m := ⟨e.toNat, by omega⟩
    have b2 := levS_bd T1 m T1.bas.length
    (refine QU (Qz (Qy (Qx fun K hK => ?_))); refine Qq rfl rfl rfl ?_; refine Qq rfl rfl rfl ?_)
    refine Xu [] goleaving (leaving_ok T1 G.fit G.short m (by omega)) rfl rfl rfl hbor rfl rfl hfix (fun _ _ => ?_)
    generalize hl : levS T1 m T1.bas.length = l at *
    (refine Qv rfl rfl rfl ?_; refine Qj (hK _ _ (Qz (Qy (Qy ?_)))); clear hK K; refine Qx (fun K hK => ?_); refine Qq rfl rfl rfl ?_; refine Qw ilss rfl rfl rfl rfl ?_; refine Qj (hK _ _ (Qz ?_)); clear hK K)
    refine Q0 rfl (fun h2 => ?_) (fun h2 => ?_)
    · cases k with
      | zero =>
        obtain ⟨-, rfl, h3⟩ := hr
        rw [he, Int.toNat_natCast, hl] at h3
        have hs : s = m := by omega
        subst hs
        (refine Qy (Qx fun K hK => ?_); refine Qq rfl rfl rfl ?_; refine Qv rfl rfl rfl ?_; refine Qj (hK _ _ (Qz (Q3 (QW (Q9 (QW (Q9 ?_))))))); clear hK K)
        refine X9 () [_] rfl (QQ rfl Qu) rfl (fun _ => rfl) trivial
      | succ k => exfalso; have := hr.2.2.1; rw [he, Int.toNat_natCast, hl] at this; omega
    · obtain ⟨q, rfl⟩ : ∃ q : Nat, l = q := ⟨l.toNat, by omega⟩
      cases k with
      | zero => exfalso; have h3 := hr.2.2; rw [he, Int.toNat_natCast, hl] at h3; omega
      | succ k =>
        have h3 := hr.2.2.2
        rw [he, Int.toNat_natCast, hl, Int.toNat_natCast] at h3
        (refine QU (Qz (Qx fun K hK => ?_)); refine Qq rfl rfl rfl ?_; refine Qq rfl rfl rfl ?_; refine Qq rfl rfl rfl ?_)
        refine Xu [] gopivot (pivot_ok T1 G.fit G.short G.den G.dens q m (by omega) (by omega)) rfl rfl rfl hbor rfl rfl hfix (fun _ _ => ?_)
        (refine Qj (hK _ _ (Xw (Q5 ?_))); clear hK K)
        refine Q8 (k, pvt T1 q m) (by dsimp only; omega) ⟨h3, by rw [pvt_rows]; exact hg1⟩ (by exact QZ rfl ⟨rfl, rfl, trivial⟩)
end Go.Proofs.YtdhmbgogmoaofaaGreat
namespace Go.Own
open Go.RowKit
def wpAnyL (P : Program) (ops : Array Oper) (K : Act → World → Prop) (late : List Nat) : Nat → Array Bool → Act → World → Prop
  | 0, listed, a, w => Region.ready .any ops listed = [] ∧ K a w
  | fuel + 1, listed, a, w => (Region.ready .any ops listed = [] → K a w) ∧
      ∀ i ∈ Region.ready .any ops listed, wpOp P ops (only K) i (fun a' w' => (late.contains i = false → Below w.heap.size w w') ∧ wpAnyL P ops K late fuel (listed.setIfInBounds i true) a' w') a w
theorem wpAny_of_L {P : Program} {ops : Array Oper} {K : Act → World → Prop} {late : List Nat} : ∀ (fuel : Nat) (listed : Array Bool) (a : Act) (w : World), wpAnyL P ops K late fuel listed a w → wpAny P .any ops (only K) fuel listed a w
  | 0, _, _, _, h => h
  | fuel + 1, _, _, _, h => ⟨h.1, fun i hi => wpOp_mono (fun a' w' h' => wpAny_of_L fuel _ a' w' h'.2) (h.2 i hi)⟩
def needs (ops : Array Oper) (i : Nat) : Nat → Nat → Bool
  | 0, _ => false
  | n + 1, j => match ops[j]? with
    | some oj => oj.after.any fun e => Region.binds .any e && (e.on == i || needs ops i n e.on)
    | none => false
def waitsL (ops : Array Oper) (late : List Nat) (listed : Array Bool) (i : Nat) : Bool := late.all fun j => listed.getD j true || needs ops i ops.size j
theorem needs_spec {ops : Array Oper} {i : Nat} {listed : Array Bool} (hs : Shut ops listed) : ∀ (n j : Nat), needs ops i n j = true → (∀ oj, ops[j]? = some oj → ∀ e ∈ oj.after, Region.binds .any e = true → listed.getD e.on false = true) → listed.getD i false = true
  | 0, _, h, _ => by cases h
  | n + 1, j, h, hj => by
    simp only [needs] at h
    cases ho : ops[j]? with
    | none => rw [ho] at h; cases h
    | some oj =>
      rw [ho] at h
      obtain ⟨e, he, hb⟩ := Array.any_eq_true'.1 h
      simp only [Bool.and_eq_true, Bool.or_eq_true, beq_iff_eq] at hb
      have hl := hj oj ho e he hb.1
      rcases hb.2 with h2 | h2
      · rw [← h2]; exact hl
      · exact needs_spec hs n e.on h2 (fun ok hk e' he' hb' => hs e.on ok hk hl e' he' hb')
theorem waitsL_spec {ops : Array Oper} {late : List Nat} {listed0 listed : Array Bool} {i : Nat} (h : waitsL ops late listed0 i = true) (hm : ∀ j, listed0.getD j true = true → listed.getD j true = true) (hs : Shut ops listed) (hi : listed.getD i false = false) {j : Nat} (hj : j ∈ Region.ready .any ops listed) : late.contains j = false := by
  cases hl : late.contains j with
  | false => rfl
  | true =>
    exfalso
    obtain ⟨hun, oj, hoj, hall⟩ := mem_ready.1 hj
    simp only [waitsL, List.all_eq_true] at h
    have h1 := h j (by simpa using hl)
    rw [Bool.or_eq_true] at h1
    rcases h1 with h1 | h1
    · rw [hm j h1] at hun; cases hun
    · have := needs_spec hs _ j h1 (fun ok hk e he hb => by rw [hoj] at hk; injection hk with hk; subst hk; exact hall e he hb)
      rw [this] at hi; cases hi
theorem getD_mono {listed : Array Bool} {i j : Nat} (h : listed.getD j true = true) : (listed.setIfInBounds i true).getD j true = true := by
  by_cases hij : i = j
  · subst hij
    rcases Nat.lt_or_ge i listed.size with h' | h'
    · simp [h']
    · simp [h']
  · rw [getD_set_ne true hij]; exact h
theorem wpAnyL_first {P : Program} {ops : Array Oper} {K : Act → World → Prop} {late : List Nat} {i : Nat} {oi : Oper} {v : Value} {listed0 : Array Bool} (hi : ops[i]? = some oi)
    (hsel : ∀ (j : Nat) (o : Oper) cs b, ops[j]? = some o → o.op ≠ .select cs b) (htail : waitsL ops late listed0 i = true) :
    ∀ (fuel : Nat) (listed : Array Bool) (a : Act) (w : World), Shut ops listed → (∀ j, listed0.getD j true = true → listed.getD j true = true) →
      (∀ j oj, ops[j]? = some oj → j ≠ i → listed.getD j true = false → (∀ e ∈ oj.after, Region.binds .any e = true → e.on ≠ i) → oi.apart ops oj = true) →
      i ∈ Region.ready .any ops listed → YieldsIf P ops (fun x => Below w.heap.size w x) oi v a →
      wpAnyL P ops K late fuel (listed.setIfInBounds i true) (a.put oi.dst v) w → wpAnyL P ops K late (fuel + 1) listed a w := by
  intro fuel
  induction fuel with
  | zero =>
    intro listed a w _ _ _ hr hy H
    refine ⟨fun h => (by rw [h] at hr; cases hr), fun j hj => ?_⟩
    by_cases hji : j = i
    · subst hji; exact hy.wpOp hi (Below.refl _ _) ⟨fun _ => Below.refl _ _, H⟩
    · have := ready_mono hj hji
      rw [H.1] at this
      cases this
  | succ fuel ih =>
    intro listed a w hsh hm hfree hr hy H
    refine ⟨fun h => (by rw [h] at hr; cases hr), fun j hj => ?_⟩
    by_cases hji : j = i
    · subst hji; exact hy.wpOp hi (Below.refl _ _) ⟨fun _ => Below.refl _ _, H⟩
    · have h1 := H.2 j (ready_mono hj hji)
      obtain ⟨hjun, oj, hoj, hall⟩ := mem_ready.1 hj
      have hun : listed.getD i false = false := by
        have h0 := (mem_ready.1 hr).1
        rcases Nat.lt_or_ge i listed.size with h' | h'
        · simpa [h'] using h0
        · simp [h'] at h0
      have hnot : ∀ e ∈ oj.after, Region.binds .any e = true → e.on ≠ i := fun e he hb heq => by
        have h1 := hall e he hb
        rw [heq, hun] at h1; cases h1
      have hjN : late.contains j = false := waitsL_spec htail hm hsh hun hj
      have h2 := wpOp_putIf hoj (hfree j oj hoj hji hjun hnot) (fun cs b => hsel i oi cs b hi) (fun cs b => hsel j oj cs b hoj) (fun _ _ _ h => h.elim) hy h1
      have hfree' : ∀ k ok, ops[k]? = some ok → k ≠ i → (listed.setIfInBounds j true).getD k true = false →
          (∀ e ∈ ok.after, Region.binds .any e = true → e.on ≠ i) → oi.apart ops ok = true := fun k ok hk hki hun hno => by
        refine hfree k ok hk hki ?_ hno
        by_cases hjk : j = k
        · subst hjk; exact hjun
        · rw [getD_set_ne true hjk] at hun; exact hun
      refine wpOp_mono (fun a' w' h3 => ⟨h3.2.1, ih (listed.setIfInBounds j true) a' w' (hsh.step hj) (fun q hq => getD_mono (hm q hq)) hfree' (ready_mono hr (Ne.symm hji)) (yields_later h3.1 (h3.2.1 hjN)) ?_⟩) h2
      rw [Array.setIfInBounds_comm _ _ hji]
      exact h3.2.2
theorem wpAnyL_firstP {P : Program} {ops : Array Oper} {K : Act → World → Prop} {late : List Nat} {i : Nat} {oi : Oper} {v : Value} (hi : ops[i]? = some oi)
    (hsel : ∀ (j : Nat) (o : Oper) cs b, ops[j]? = some o → o.op ≠ .select cs b) :
    ∀ (fuel : Nat) (listed : Array Bool) (a : Act) (w : World),
      (∀ j oj, ops[j]? = some oj → j ≠ i → listed.getD j true = false → (∀ e ∈ oj.after, Region.binds .any e = true → e.on ≠ i) → oi.apart ops oj = true) →
      i ∈ Region.ready .any ops listed → Yields P ops oi v a →
      wpAnyL P ops K late fuel (listed.setIfInBounds i true) (a.put oi.dst v) w → wpAnyL P ops K late (fuel + 1) listed a w := by
  intro fuel
  induction fuel with
  | zero =>
    intro listed a w _ hr hy H
    refine ⟨fun h => (by rw [h] at hr; cases hr), fun j hj => ?_⟩
    by_cases hji : j = i
    · subst hji; exact hy.wpOp hi ⟨fun _ => Below.refl _ _, H⟩
    · have := ready_mono hj hji
      rw [H.1] at this
      cases this
  | succ fuel ih =>
    intro listed a w hfree hr hy H
    refine ⟨fun h => (by rw [h] at hr; cases hr), fun j hj => ?_⟩
    by_cases hji : j = i
    · subst hji; exact hy.wpOp hi ⟨fun _ => Below.refl _ _, H⟩
    · have h1 := H.2 j (ready_mono hj hji)
      obtain ⟨hjun, oj, hoj, hall⟩ := mem_ready.1 hj
      have hnot : ∀ e ∈ oj.after, Region.binds .any e = true → e.on ≠ i := fun e he hb heq => by
        have h1 := hall e he hb
        have h0 := (mem_ready.1 hr).1
        rw [heq] at h1
        rcases Nat.lt_or_ge i listed.size with h' | h'
        · simp [h'] at h0 h1; rw [h0] at h1; cases h1
        · simp [Array.getElem?_eq_none h'] at h1
      have h2 := wpOp_put hoj (hfree j oj hoj hji hjun hnot) (fun cs b => hsel i oi cs b hi) (fun cs b => hsel j oj cs b hoj) (fun _ _ _ h => h.elim) hy h1
      have hfree' : ∀ k ok, ops[k]? = some ok → k ≠ i → (listed.setIfInBounds j true).getD k true = false →
          (∀ e ∈ ok.after, Region.binds .any e = true → e.on ≠ i) → oi.apart ops ok = true := fun k ok hk hki hun hno => by
        refine hfree k ok hk hki ?_ hno
        by_cases hjk : j = k
        · subst hjk; exact hjun
        · rw [getD_set_ne true hjk] at hun; exact hun
      refine wpOp_mono (fun a' w' h3 => ⟨h3.2.1, ih (listed.setIfInBounds j true) a' w' hfree' (ready_mono hr (Ne.symm hji)) h3.1 ?_⟩) h2
      rw [Array.setIfInBounds_comm _ _ hji]
      exact h3.2.2
def chkL (ops : Array Oper) (late : List Nat) : Od → Nat → Array Bool → Bool
  | .done, _, listed => (Region.ready .any ops listed).isEmpty
  | _, 0, _ => false
  | .p i r, n + 1, listed => (Region.ready .any ops listed).contains i && Region.free .any ops listed i && chkL ops late r n (listed.setIfInBounds i true)
  | .f i r, n + 1, listed => (Region.ready .any ops listed).contains i && Region.free .any ops listed i && waitsL ops late listed i && chkL ops late r n (listed.setIfInBounds i true)
  | .m i r, n + 1, listed => Region.ready .any ops listed == [i] && !late.contains i && chkL ops late r n (listed.setIfInBounds i true)
  | .a i r, n + 1, listed => Region.ready .any ops listed == [i] && late.contains i && chkL ops late r n (listed.setIfInBounds i true)
  | .fork i r j s, n + 1, listed => Region.ready .any ops listed == [i, j] && !late.contains i && !late.contains j && chkL ops late r n (listed.setIfInBounds i true) && chkL ops late s n (listed.setIfInBounds j true)
theorem anyL_of_X {P : Program} {l : List Oper} {K : Act → World → Prop} {late : List Nat} (hs : Region.noSelect l.toArray = true) :
    ∀ (ord : Od) (fuel : Nat) (listed : Array Bool) (a : Act) (w : World), Shut l.toArray listed → chkL l.toArray late ord fuel listed = true →
      wpX P l.toArray K (pick l ord) a w → wpAnyL P l.toArray K late fuel listed a w := by
  have hidx : ∀ {listed : Array Bool} {i : Nat}, i ∈ Region.ready .any l.toArray listed → l.toArray[i]? = some (nth l i) := fun h => nth_eq (by simpa using ready_lt h)
  intro ord
  induction ord with
  | done =>
    intro fuel listed a w _ hc h
    have hr : Region.ready .any l.toArray listed = [] := by
      cases fuel <;> simpa [chkL] using hc
    cases fuel with
    | zero => exact ⟨hr, h⟩
    | succ f => exact ⟨fun _ => h, by rw [hr]; simp⟩
  | p i r ih =>
    intro fuel listed a w hsh hc h
    cases fuel with
    | zero => simp [chkL] at hc
    | succ f =>
      simp only [chkL, Bool.and_eq_true] at hc
      obtain ⟨⟨hr, hfr⟩, hc2⟩ := hc
      have hr' : i ∈ Region.ready .any l.toArray listed := by simpa using hr
      obtain ⟨v, hy, h⟩ := h
      exact wpAnyL_firstP (hidx hr') (Region.noSelect_spec hs) f listed a w (Region.free_spec (hidx hr') hfr) hr' hy (ih f _ _ _ (hsh.step hr') hc2 h)
  | f i r ih =>
    intro fuel listed a w hsh hc h
    cases fuel with
    | zero => simp [chkL] at hc
    | succ f =>
      simp only [chkL, Bool.and_eq_true] at hc
      obtain ⟨⟨⟨hr, hfr⟩, hw⟩, hc2⟩ := hc
      have hr' : i ∈ Region.ready .any l.toArray listed := by simpa using hr
      obtain ⟨v, hy, h⟩ := h
      exact wpAnyL_first (hidx hr') (Region.noSelect_spec hs) hw f listed a w hsh (fun _ h => h) (Region.free_spec (hidx hr') hfr) hr' hy (ih f _ _ _ (hsh.step hr') hc2 h)
  | m i r ih =>
    intro fuel listed a w hsh hc h
    cases fuel with
    | zero => simp [chkL] at hc
    | succ f =>
      simp only [chkL, Bool.and_eq_true, beq_iff_eq] at hc
      obtain ⟨⟨hr, _⟩, hc2⟩ := hc
      refine ⟨(fun h0 => by rw [hr] at h0; cases h0), fun j hj => ?_⟩
      have hi := hidx hj
      have hj' := hj
      rw [hr] at hj
      obtain rfl : j = i := by simpa using hj
      exact wpOp_of_O hi (wpO_mono h fun a' w' h' => ⟨fun _ => h'.1, ih f _ _ _ (hsh.step hj') hc2 h'.2⟩)
  | a i r ih =>
    intro fuel listed a w hsh hc h
    cases fuel with
    | zero => simp [chkL] at hc
    | succ f =>
      simp only [chkL, Bool.and_eq_true, beq_iff_eq] at hc
      obtain ⟨⟨hr, hN⟩, hc2⟩ := hc
      refine ⟨(fun h0 => by rw [hr] at h0; cases h0), fun j hj => ?_⟩
      have hi := hidx hj
      have hj' := hj
      rw [hr] at hj
      obtain rfl : j = i := by simpa using hj
      refine wpOp_of_O hi (wpO_mono h fun a' w' h' => ⟨fun hlt => ?_, ih f _ _ _ (hsh.step hj') hc2 h'⟩)
      rw [hlt] at hN; cases hN
  | fork i r j s ih1 ih2 =>
    intro fuel listed a w hsh hc h
    cases fuel with
    | zero => simp [chkL] at hc
    | succ f =>
      simp only [chkL, Bool.and_eq_true, beq_iff_eq] at hc
      obtain ⟨⟨⟨⟨hr, _⟩, _⟩, hc1⟩, hc2⟩ := hc
      refine ⟨(fun h0 => by rw [hr] at h0; cases h0), fun q hq => ?_⟩
      have hi := hidx hq
      have hq' := hq
      rw [hr] at hq
      rcases List.mem_cons.1 hq with rfl | hq
      · exact wpOp_of_O hi (wpO_mono h.1 fun a' w' h' => ⟨fun _ => h'.1, ih1 f _ _ _ (hsh.step hq') hc1 h'.2⟩)
      · obtain rfl : q = j := by simpa using hq
        exact wpOp_of_O hi (wpO_mono h.2 fun a' w' h' => ⟨fun _ => h'.1, ih2 f _ _ _ (hsh.step hq') hc2 h'.2⟩)
variable {X : Ctx} {L : AL} {B : BL}
theorem St.drawL {id : Nat} {l : List Oper} {Q : Exit → Act → World → Prop} (hm : X.P.follows .mixedOrders = true) (late : List Nat) (ord : Od)
    (hc : (Region.noSelect l.toArray && chkL l.toArray late ord l.length (Array.replicate l.length false)) = true)
    (h : ∀ K, (∀ L' B', Fin X L' B' (fun a w => Q .normal a w) → Fin X L' B' K) → Ops X l.toArray (pick l ord) L B K) : St X L B (.region id l.toArray true) Q := by
  intro a ρ w hI
  simp only [Bool.and_eq_true] at hc
  obtain ⟨hs, hc⟩ := hc
  have h1 := h _ (fun _ _ h => h) a ρ _ (hI.below (Below.drewOnce w))
  have h2 := anyL_of_X hs ord l.length _ a _ (Shut.start _ _) hc h1
  have h3 := wpAny_of_L _ _ _ _ h2
  refine Go.wp_mono (wp_region_any (Q := only fun a w => Q .normal a w) hm ?_) ?_
  · simpa using h3
  · intro e a w h
    cases e with
    | normal => exact h
    | exit _ => exact h.elim
    | goto _ => exact h.elim
    | ret => exact h.elim
    | panic _ => exact h.elim
    | outgrown => exact h.elim
end Go.Own
namespace Go.Own
section
variable {P : Program} {n : Nat} {S : BSet} {w0 : World} {B0 : BL} {fx : List Nat} {ρ0 : Nat → Value} {α : Type} {J : α → Prop} {R : α → Sl} {B1 : α → BL} {L : AL} {B : BL}
theorem Is.postMS {a : Act} {ρ : Nat → Value} {w : World} {v : Value} (hI : Is (lentM P n S w0 B0 fx ρ0) L B a ρ w) (q : α) (hB : ∀ i e, bget (B1 q) i = some e → bget B i = some e) (hfx1 : ∀ i ∈ fx, isBx (bget (B1 q) i) = true) (hJ : J q) (hv : (R q).p (Sof (lentM P n S w0 B0 fx ρ0) B ρ) ρ w v) : Own.postM S w0 ρ0 B0 fx J R B1 (.returned v) w := by
  have hk : Kp (Sof (lentM P n S w0 B0 fx ρ0) B ρ) (Sn S (B1 q) ρ) w w := ⟨Nat.le_refl _, fun k _ h => ⟨⟨h.1, fun i e hi => h.2 i e (hB i e hi)⟩, rfl⟩⟩
  refine ⟨v, q, ρ, rfl, hJ, Sl.mono hk hv, ⟨fun i e hi => Ent.keep hk (fun _ _ _ => rfl) (hI.ent i e (hB i e hi)).1, fun i j e e' hi hj => hI.apart i j e e' (hB i e hi) (hB j e' hj)⟩, fun i hi => ⟨hfx1 i hi, ?_⟩, fun i e hi gb hgb => (hI.ent i e (hB i e hi)).2 gb hgb, hI.frame⟩
  exact (hI.fixd (i, ρ0 i) (List.mem_map.2 ⟨i, hi, rfl⟩)).2
theorem Fin.retMSG {fn : Func} {cs : List CT} {rv : List ResultVar} (q : α) (hfn : fn.results = rv.toArray) (hr : AllRes (lentM P n S w0 B0 fx ρ0) L B rv cs) (hR : R q = .ct (retC cs)) (hB : ∀ i e, bget (B1 q) i = some e → bget B i = some e) (hfx1 : ∀ i ∈ fx, isBx (bget (B1 q) i) = true) (hJ : J q) :
    ∀ a ρ w, Is (lentM P n S w0 B0 fx ρ0) L B a ρ w → a.defers = [] ∧ ∃ v, (results fn a.tmps).run P w = .ok v w ∧ Own.postM S w0 ρ0 B0 fx J R B1 (.returned v) w := fun a ρ w hI => by
  obtain ⟨v, h1, h2⟩ := results_run hfn hr hI
  exact ⟨hI.defers, v, h1, hI.postMS q hB hfx1 hJ (by rw [hR]; exact h2)⟩
theorem Fin.retMS {fn : Func} {cs : List CT} (q : α) (rv : List ResultVar) (hfn : fn.results = rv.toArray) (hr : AllRes (lentM P n S w0 B0 fx ρ0) L B rv cs) (hR : R q = .ct (retC cs)) (hB : ∀ i e, bget (B1 q) i = some e → bget B i = some e) (hfx1 : ∀ i ∈ fx, isBx (bget (B1 q) i) = true) (hJ : J q) :
    Fin (lentM P n S w0 B0 fx ρ0) L B (fun a w => bodyPost P fn (Own.postM S w0 ρ0 B0 fx J R B1) .ret a w) := Fin.retMSG q hfn hr hR hB hfx1 hJ
end
end Go.Own
namespace Go.Proofs.YtdhmbgogmoaofaaGreat
open Go.Own Go.Limbs
theorem tab_sub {E : BL} (hE : beside E = true) {T : Tv} : ∀ i e, bget (tabB T) i = some e → bget (E ++ tabB T) i = some e := fun i e h => by
  rw [tab_swap hE, bget_append, h]; rfl
theorem tab_del {T : Tv} {k : Nat} {e5 : Ent} (h1 : 4 ≤ k) (h2 : k < 10) : ∀ i e, bget (tabB T) i = some e → bget (bdel ((k, e5) :: tabB T) k) i = some e := fun i e h => by
  have hik : i ≠ k := fun he => by subst he; rw [tab_none h1 h2] at h; cases h
  rw [bget_bdel_ne _ hik, bget_cons_ne _ _ (Ne.symm hik)]; exact h
attribute [local irreducible] St Ops Go.Own.Fin Ok OkM
def shq (a D : Int) : Rat := mkRat a D.natAbs
theorem goshare : InGo Tryz.prog 74 := InGo.of Tryz.func74 (by kernel_rfl) (by kernel_rfl)
set_option maxHeartbeats 4000000 in
theorem share_ok (T : Tv) (a : Int) (ha : (limbs a.natAbs).length ≤ 200) (hD : 0 < T.den) (hDs : (limbs T.den.natAbs).length ≤ 200) : OkM Tryz.prog 74 [.own 0, .ct (whC a)] (tabB T) [0] (fun _ : Unit => True) (fun _ => .ct (ratC (shq a T.den))) (fun _ => tabB T) := by
  have hq : ratC (shq a T.den) = fracC (redF (decide (a < 0)) a.natAbs T.den.natAbs) := by
    rw [redF_q _ _ _ (by omega), sg_natAbs]; rfl
  rw [hq]
  refine OkM.enter Tryz.func74 rfl _ Tryz.ntmps74 rfl (tab_fx T) ?_
  intro S w ρ0 hbor
  simp only [tabB]
  have hr := Reduce_ok ⟨decide (a < 0), a.natAbs, T.den.natAbs⟩ (by show 0 < T.den.natAbs; omega) (by show (limbs a.natAbs).length ≤ 256; omega) (by show (limbs T.den.natAbs).length ≤ 256; omega)
  (refine Qy (Qx fun K hK => ?_); refine Qt 4 rfl rfl rfl rfl rfl (by exact lines_lt 10 _ _ 4 (by decide)) rfl ?_; refine Qd 5 rfl rfl (by with_reducible exact zvFrac) rfl (by exact lines_lt 10 _ _ 5 (by decide)) rfl ?_; refine Qj (hK _ _ (Qz (Qy ?_))); clear hK K)
  refine Xq (by with_reducible exact mixed) 13 (.p 0 (.p 2 (.p 5 (.p 6 (.p 7 (.p 8 (.f 1 (.f 3 (.f 9 (.m 4 (.m 10 (.p 11 (.m 12 (.a 13 .done)))))))))))))) (by kernel_rfl) (fun K hK => ?_)
  (refine QV rfl rfl rfl (by with_reducible first | exact fW0 | exact fW1 | exact fT0 | exact fT1 | exact fT2 | exact fT3 | exact fR0 | exact fR1) rfl ?_; refine QV rfl rfl rfl (by with_reducible first | exact fW0 | exact fW1 | exact fT0 | exact fT1 | exact fT2 | exact fT3 | exact fR0 | exact fR1) rfl ?_; refine Qq rfl rfl rfl ?_; refine Q1 rfl rfl rfl rfl ?_; refine QV rfl rfl rfl (by with_reducible first | exact fW0 | exact fW1 | exact fT0 | exact fT1 | exact fT2 | exact fT3 | exact fR0 | exact fR1) rfl ?_)
  refine Ops.fldA rfl rfl (by with_reducible exact fW1) rfl ?_
  (refine QJ rfl rfl rfl rfl rfl (by with_reducible first | exact lInt | exact lNat | exact lBool | exact lInts | exact lMat | exact lWhs) rfl ?_; refine QJ rfl rfl rfl rfl rfl (by with_reducible first | exact lInt | exact lNat | exact lBool | exact lInts | exact lMat | exact lWhs) rfl ?_; refine QJ rfl rfl rfl rfl rfl (by with_reducible first | exact lInt | exact lNat | exact lBool | exact lInts | exact lMat | exact lWhs) rfl ?_)
  refine QX goClone (Clone_ok _ (by omega)) rfl rfl rfl rfl ?_
  refine QX goClone (Clone_ok _ (by omega)) rfl rfl rfl rfl ?_
  refine Xz rfl (by with_reducible exact bFrac) rfl (.one rfl rfl rfl rfl (.one rfl rfl rfl rfl (.one rfl rfl rfl rfl .nil))) rfl ?_
  refine QX goReduce hr rfl rfl rfl rfl ?_
  generalize redF (decide (a < 0)) a.natAbs T.den.natAbs = rr at *
  refine Qa 3 rfl rfl rfl rfl rfl (by with_reducible exact szFrac) rfl rfl ?_
  (refine Qj (hK _ _ (Qz (Q3 ?_))); clear hK K)
  refine Fin.retMS () [_] rfl (Qb (n := 3) rfl rfl (by with_reducible exact lFrac) rfl Qu) rfl (tab_sub (E := [(5, _), (4, _)]) rfl) (tab_fx T) trivial
def frO : Option Rat → List CT
  | none => [boolC false, .ex (.slice none 0 0), .ex (.slice none 0 0)]
  | some q => frCs (ofQ q)
theorem frO_len (o : Option Rat) : (frO o).length = 3 := by cases o <;> rfl
def frR (l : List (Option Rat)) : List CT := (l.map frO).flatten
theorem frR_len (l : List (Option Rat)) : (frR l).length = l.length * 3 := by
  unfold frR; rw [flatten_length (k := 3) (by intro e he; obtain ⟨o, _, rfl⟩ := List.mem_map.1 he; exact frO_len o)]; simp
theorem frR_put {l : List (Option Rat)} {j : Nat} (q : Rat) (h : j < l.length) : (frR l).take (j * 3) ++ frCs (ofQ q) ++ (frR l).drop (j * 3 + 3) = frR (l.set j (some q)) := by
  induction l generalizing j with
  | nil => simp at h
  | cons o l ih =>
    have e : ∀ (o : Option Rat) (l : List (Option Rat)), frR (o :: l) = frO o ++ frR l := fun _ _ => rfl
    have h3 := frO_len o
    have t1 : ∀ m, (frO o ++ frR l).take (3 + m) = frO o ++ (frR l).take m := fun m => by rw [List.take_append, h3, List.take_of_length_le (by omega), show 3 + m - 3 = m by omega]
    have t2 : ∀ m, (frO o ++ frR l).drop (3 + m) = (frR l).drop m := fun m => by rw [List.drop_append, h3, List.drop_of_length_le (by omega), show 3 + m - 3 = m by omega]; rfl
    cases j with
    | zero =>
      have := t2 0
      rw [List.set_cons_zero, e, e, show 0 * 3 + 3 = 3 + 0 by omega, this]; rfl
    | succ j =>
      have := ih (j := j) (by simpa using h)
      rw [List.set_cons_succ, e, e, ← this, show (j + 1) * 3 = 3 + j * 3 by omega, show 3 + j * 3 + 3 = 3 + (j * 3 + 3) by omega, t1, t2]
      simp
theorem frR_made (n : Nat) : zinit (.agg #[.bool false, .slice none 0 0, .slice none 0 0]) n = frR (List.replicate n none) := by
  unfold zinit frR; rw [List.map_replicate]; rfl
theorem frR_frozen (e : Nat) (qs : List Rat) : (Ent.row e 3 (frR (qs.map some))).frozen (sliceT 3 ((qs.map ofQ).map frCs)) :=
  ⟨(qs.map ofQ).map frCs, by unfold frR; simp only [List.map_map]; rfl, by intro x hx; obtain ⟨f, _, rfl⟩ := List.mem_map.1 hx; rfl, by decide, rfl⟩
section
variable {X : Ctx} {L : AL} {B : BL} {ops : Array Oper} {K : Act → World → Prop} {r : Pl} {k : Kd}
  {x y z : Operand} {d : Nat} {t t2 t' : TypeId} {pos : String} {af : Array Edge} {g : Option (Nat × Bool)}
theorem stFr {i j el : Nat} {l : List (Option Rat)} {q : Rat} (hg : gd ops L g = some true) (hx : ev L x = some (.loc i (j * 3))) (hi : bget B i = some (.row el 3 (frR l))) (hy : ev L y = some (.ct (ratC q))) (hj : j < l.length) (hsz : (X.P.info? t).map (·.size) = some 3)
    (h : Ops X ops r L (bset B i (.row el 3 (frR (l.set j (some q))))) K) : Ops X ops (.cons ⟨none, .store t x y, t', pos, af, g⟩ .any r) L B K :=
  Ops.stNA hg hx hi hy rfl hsz (by show j * 3 + 3 ≤ (frR l).length; rw [frR_len]; omega) (by
    have : (Ent.row el 3 (frR l)).putc (j * 3) (frCs (ofQ q)) = .row el 3 (frR (l.set j (some q))) := by rw [← frR_put q hj]; rfl
    rw [this]; exact h)
end
theorem shq_zero (D : Int) : shq 0 D = 0 := by unfold shq; exact Rat.zero_mkRat _
def ptS (T : Tv) (n : Nat) : Nat → List Rat
  | 0 => List.replicate n 0
  | i + 1 => if T.bas.getD i 0 < n then (ptS T n i).set (T.bas.getD i 0).toNat (shq (T.at i T.col.length) T.den) else ptS T n i
theorem ptS_len (T : Tv) (n : Nat) : ∀ i, (ptS T n i).length = n
  | 0 => by simp [ptS]
  | i + 1 => by simp only [ptS]; split <;> simp [ptS_len T n i]
theorem rep_set (n j : Nat) (h : j < n) : (List.replicate j (some (0 : Rat)) ++ List.replicate (n - j) none).set j (some 0) = List.replicate (j + 1) (some 0) ++ List.replicate (n - (j + 1)) none := by
  rw [List.set_append_right _ _ (by simp), List.length_replicate, Nat.sub_self, show n - j = (n - (j + 1)) + 1 by omega, List.replicate_succ, List.set_cons_zero, List.replicate_succ']
  simp
theorem gopoint : InGo Tryz.prog 72 := InGo.of Tryz.func72 (by kernel_rfl) (by kernel_rfl)
set_option maxHeartbeats 8000000 in
theorem point_ok (T : Tv) (G : Gd T) (n : Nat) (hn : n ≤ 100) (hb : ∀ i, 0 ≤ T.bas.getD i 0) : OkM Tryz.prog 72 [.own 0, .ct (intC n)] (tabB T) [0] (fun _ : Unit => True) (fun _ => .ct (fracsC ((ptS T n T.bas.length).map ofQ))) (fun _ => tabB T) := by
  have hfew := G.fit.few
  have hthin := G.fit.thin
  have hhl := G.fit.hl
  have hbas := G.fit.bas
  have hDs := G.dens
  have hof := of_ok 0 (by decide) (by decide)
  have hsh0 := share_ok T 0 (by rw [show (0 : Int).natAbs = 0 from rfl, limbs_zero]; decide) G.den (by omega)
  rw [shq_zero] at hsh0
  refine OkM.enter Tryz.func72 rfl _ Tryz.ntmps72 rfl (tab_fx T) ?_
  intro S w ρ0 hbor
  have hfix : ∀ e : Ent, ∀ p ∈ (lentM Tryz.prog 57 S w (tabB T) [0] ρ0).fix, (bget [(5, e)] p.1).isSome = true ∨ p.1 ∈ [0] := fun e p hp => by
    obtain ⟨i, hi, rfl⟩ := List.mem_map.1 hp
    exact .inr hi
  (refine Qy (Qx fun K hK => ?_); refine Qv rfl rfl rfl ?_; refine Qj (hK _ _ (Qz (Qy ?_))); clear hK K; refine Qx (fun K hK => ?_); refine Qq rfl rfl rfl ?_)
  refine X5 5 n rfl rfl rfl rfl sFracs (by omega) (by omega) rfl (by exact lines_lt 10 _ _ 5 (by decide)) rfl ?_
  rw [frR_made]
  (refine Qv rfl rfl rfl ?_; refine Qj (hK _ _ (Qz (Qy (Qy ?_)))); clear hK K; refine Qx (fun K hK => ?_); refine Qq rfl rfl rfl ?_)
  refine Ops.lenR n rfl rfl rfl (by decide) (by rw [frR_len]; simp) sFracs.und rfl ?_
  (refine Qq rfl rfl rfl ?_; refine Qj (hK _ _ (Qz (Q2 ?_))); clear hK K)
  refine Ql (α := Nat) (fun j => j ≤ n)
    (fun j => [(0, .own 0), (1, .ct (intC n)), (5, .own 5), (12, .ct (intC n)), (13, .ct (intC j))])
    (fun j => (5, .row 38 3 (frR (List.replicate j (some 0) ++ List.replicate (n - j) none))) :: tabB T) (fun j => n - j) 0 (Nat.zero_le _) (by exact QZ rfl ⟨rfl, rfl, rfl, rfl, rfl, trivial⟩) ?_
  intro j hj
  (try dsimp only at hj ⊢)
  (refine Qy (Qx fun K hK => ?_); refine Qw ilss rfl rfl rfl rfl ?_; refine Qj (hK _ _ (Qz (Qy ?_))); clear hK K)
  refine Q0 rfl (fun h => ?_) (fun h => ?_)
  · have kj : (j : Int).toNat * 3 = j * 3 := by omega
    (refine QU (Qz (Qy (Q2 (Qy (Qx fun K hK => ?_))))); refine Qq rfl rfl rfl ?_; refine Qv rfl rfl rfl ?_; refine Qj (hK _ _ (Qz ?_)); clear hK K; refine Qx (fun K hK => ?_); refine Qq rfl rfl rfl ?_; refine Qq rfl rfl rfl ?_; refine Qq rfl rfl rfl ?_)
    refine QX goof hof rfl rfl rfl rfl ?_
    refine Xu [(5, _)] goshare hsh0 rfl rfl rfl hbor rfl rfl (hfix _) (fun _ _ => ?_)
    skip
    refine Xv n rfl rfl rfl (by rw [frR_len]; simp; omega) rfl sFracs (by omega) (by omega) rfl ?_
    rw [kj]
    refine stFr rfl rfl rfl rfl (by simp; omega) szFrac ?_
    rw [rep_set n j (by omega)]
    (refine Qj (hK _ _ (Qz ?_)); clear hK K; refine Qx (fun K hK => ?_); refine Qw (iadd (by omega) (by omega)) rfl rfl rfl rfl ?_; refine Qq rfl rfl rfl ?_; refine Qj (hK _ _ (Q5 ?_)); clear hK K)
    refine Q8 (j + 1) (by omega) (by omega) (by exact QZ rfl ⟨rfl, rfl, rfl, rfl, by simp only [Int.natCast_add]; rfl, trivial⟩)
  have hjn : j = n := by omega
  subst hjn
  rw [Nat.sub_self, List.replicate_zero, List.append_nil, show List.replicate j (some (0 : Rat)) = (ptS T j 0).map some by simp [ptS]]
  (refine Qe (Qz (Qy (Qy (Qx fun K hK => ?_)))); refine Qq rfl rfl rfl ?_; refine Q1 rfl rfl rfl rfl ?_; refine QV rfl rfl rfl (by with_reducible first | exact fW0 | exact fW1 | exact fT0 | exact fT1 | exact fT2 | exact fT3 | exact fR0 | exact fR1) rfl ?_; refine QJ rfl rfl rfl rfl rfl (by with_reducible first | exact lInt | exact lNat | exact lBool | exact lInts | exact lMat | exact lWhs) rfl ?_)
  refine X1 2 T.bas.length rfl rfl rfl (by decide) (by simp) sInts.und rfl ?_
  (refine Qq rfl rfl rfl ?_; refine Qj (hK _ _ (Qz (Q2 ?_))); clear hK K)
  refine Ql (α := Nat) (fun i => i ≤ T.bas.length)
    (fun i => [(0, .own 0), (1, .ct (intC j)), (5, .own 5), (26, .ct (.ex T.hB)), (27, .ct (intC T.bas.length)), (28, .ct (intC i))])
    (fun i => (5, .row 38 3 (frR ((ptS T j i).map some))) :: tabB T) (fun i => T.bas.length - i) 0 (Nat.zero_le _) (by exact QZ rfl ⟨rfl, rfl, rfl, rfl, rfl, rfl, trivial⟩) ?_
  intro i hi
  (try dsimp only at hi ⊢)
  have hpl := ptS_len T j i
  have es : ptS T j (i + 1) = if T.bas.getD i 0 < j then (ptS T j i).set (T.bas.getD i 0).toNat (shq (T.at i T.col.length) T.den) else ptS T j i := rfl
  have hbi := hb i
  generalize hcur : ptS T j i = cur at *
  simp only [tabB]
  (refine Qy (Qx fun K hK => ?_); refine Qw ilss rfl rfl rfl rfl ?_; refine Qj (hK _ _ (Qz (Qy ?_))); clear hK K)
  refine Q0 rfl (fun h => ?_) (fun h => ?_)
  · have hi2 : i < T.rows.length := by omega
    have hrow := G.fit.row i hi2
    have ki : (i : Int).toNat * 1 = i := by omega
    have kl : ((T.col.length : Int)).toNat * 2 = T.col.length * 2 := by omega
    have sa := G.short i T.col.length
    have hsh := share_ok T (T.at i T.col.length) (by omega) G.den (by omega)
    (refine QU (Qz (Qy (Q2 (Qy (Qx fun K hK => ?_))))); refine Qq rfl rfl rfl ?_)
    refine Qi 2 T.bas.length rfl rfl rfl (by simp) rfl sInts (by omega) (by omega) rfl ?_
    rw [ki]
    refine QJ rfl rfl rfl rfl (ints_get (by omega)) lInt rfl ?_
    generalize T.bas.getD i 0 = v at *
    (refine Qv rfl rfl rfl ?_; refine Qv rfl rfl rfl ?_; refine Qj (hK _ _ (Qz (Qy ?_))); clear hK K; refine Qx (fun K hK => ?_); refine Qq rfl rfl rfl ?_; refine Qq rfl rfl rfl ?_; refine Qw ilss rfl rfl rfl rfl ?_; refine Qj (hK _ _ (Qz ?_)); clear hK K)
    refine Q0 rfl (fun h2 => ?_) (fun h2 => ?_)
    · rw [if_pos h2] at es
      have kv : v.toNat * 3 = v.toNat * 3 := rfl
      skip
      refine St.drawL (by with_reducible exact mixed) [17, 19] (.p 0 (.p 1 (.p 2 (.p 3 (.p 4 (.p 5 (.p 7 (.p 10 (.p 11 (.p 12 (.f 6 (.p 8 (.f 9 (.f 13 (.p 14 (.p 15 (.f 16 (.a 17 (.p 18 (.a 19 .done)))))))))))))))))))) (by kernel_rfl) (fun K hK => ?_)
      (refine Qq rfl rfl rfl ?_; refine Qq rfl rfl rfl ?_; refine Qq rfl rfl rfl ?_; refine Qq rfl rfl rfl ?_; refine Q1 rfl rfl rfl rfl ?_; refine QV rfl rfl rfl (by with_reducible first | exact fW0 | exact fW1 | exact fT0 | exact fT1 | exact fT2 | exact fT3 | exact fR0 | exact fR1) rfl ?_; refine Qq rfl rfl rfl ?_; refine Qq rfl rfl rfl ?_; refine Q1 rfl rfl rfl rfl ?_; refine QV rfl rfl rfl (by with_reducible first | exact fW0 | exact fW1 | exact fT0 | exact fT1 | exact fT2 | exact fT3 | exact fR0 | exact fR1) rfl ?_; refine QJ rfl rfl rfl rfl rfl (by with_reducible first | exact lInt | exact lNat | exact lBool | exact lInts | exact lMat | exact lWhs) rfl ?_)
      refine Qi 1 T.rows.length rfl rfl rfl (by simp [hhl]) rfl sMat (by omega) (by omega) rfl ?_
      rw [ki]
      refine QJ rfl rfl rfl rfl (hl_get (by omega)) lWhs rfl ?_
      (refine QJ rfl rfl rfl rfl rfl (by with_reducible first | exact lInt | exact lNat | exact lBool | exact lInts | exact lMat | exact lWhs) rfl ?_)
      refine X1 3 T.col.length rfl rfl rfl (by decide) (by simp) sInts.und rfl ?_
      refine Qi (i + 10) (T.col.length + 1) rfl rfl (lines_get (by omega) hi2) (by rw [whs_len, hrow]) rfl sWhs (by omega) (by omega) rfl ?_
      rw [kl]
      refine ldWh rfl rfl rfl (lines_get (by omega) hi2) rfl (by omega) lWh rfl ?_
      refine Xu [(5, _)] goshare hsh rfl rfl rfl hbor rfl rfl (hfix _) (fun _ _ => ?_)
      refine Xv j rfl rfl rfl (by rw [frR_len]; simp; omega) rfl sFracs (by omega) (by omega) rfl ?_
      refine stFr rfl rfl rfl rfl (by simp; omega) szFrac ?_
      rw [show (cur.map some).set v.toNat (some (shq (T.at i T.col.length) T.den)) = (ptS T j (i + 1)).map some by rw [es, List.map_set]]
      (refine Qj (hK _ _ (Qz ?_)); clear hK K; refine Qx (fun K hK => ?_); refine Qw (iadd (by omega) (by omega)) rfl rfl rfl rfl ?_; refine Qq rfl rfl rfl ?_; refine Qj (hK _ _ (Q5 ?_)); clear hK K)
      refine Q8 (i + 1) (by omega) (by omega) (by exact QZ rfl ⟨rfl, rfl, rfl, rfl, rfl, by simp only [Int.natCast_add]; rfl, trivial⟩)
    · rw [if_neg h2] at es
      (refine QU (Qz (Qx fun K hK => ?_)); refine Qw (iadd (by omega) (by omega)) rfl rfl rfl rfl ?_; refine Qq rfl rfl rfl ?_; refine Qj (hK _ _ (Q5 ?_)); clear hK K)
      refine Q8 (i + 1) (by omega) (by omega) (by exact QZ (by rw [es]) ⟨rfl, rfl, rfl, rfl, rfl, by simp only [Int.natCast_add]; rfl, trivial⟩)
  · have hi' : i = T.bas.length := by omega
    subst hi'
    refine XW 5 _ rfl (frR_frozen _ _) hbor ?_
    (refine Qe (Qz (Qy (Qx fun K hK => ?_))); refine Qq rfl rfl rfl ?_; refine Qv rfl rfl rfl ?_; refine Qj (hK _ _ (Qz (Q3 ?_))); clear hK K)
    refine Fin.retMS () [_] rfl (QQ rfl Qu) (by rw [hcur]; rfl) (tab_del (by decide) (by decide)) (tab_fx T) trivial
end Go.Proofs.YtdhmbgogmoaofaaGreat
namespace Go.Proofs.YtdhmbgogmoaofaaGreat
open Go.Own Go.Limbs
attribute [local irreducible] St Ops Go.Own.Fin Ok OkM
def duS (T : Tv) (n m gi : Nat) : Nat → List Rat
  | 0 => List.replicate m 0
  | j + 1 => if (n : Int) ≤ T.col.getD j 0 ∧ T.col.getD j 0 < n + m then (duS T n m gi j).set (T.col.getD j 0 - n).toNat (shq (T.at gi j) T.den) else duS T n m gi j
theorem duS_len (T : Tv) (n m gi : Nat) : ∀ i, (duS T n m gi i).length = m
  | 0 => by simp [duS]
  | i + 1 => by simp only [duS]; split <;> simp [duS_len T n m gi i]
theorem godual : InGo Tryz.prog 70 := InGo.of Tryz.func70 (by kernel_rfl) (by kernel_rfl)
set_option maxHeartbeats 8000000 in
theorem dual_ok (T : Tv) (G : Gd T) (n m gi : Nat) (hn : n ≤ 100) (hm : m ≤ 100) (hgi : gi < T.rows.length) (hb : ∀ i, 0 ≤ T.col.getD i 0) : OkM Tryz.prog 70 [.own 0, .ct (intC n), .ct (intC m), .ct (intC gi)] (tabB T) [0] (fun _ : Unit => True) (fun _ => .ct (fracsC ((duS T n m gi T.col.length).map ofQ))) (fun _ => tabB T) := by
  have hfew := G.fit.few
  have hthin := G.fit.thin
  have hhl := G.fit.hl
  have hbas := G.fit.bas
  have hDs := G.dens
  have hrow := G.fit.row gi hgi
  have kg : (gi : Int).toNat * 1 = gi := by omega
  have hof := of_ok 0 (by decide) (by decide)
  have hsh0 := share_ok T 0 (by rw [show (0 : Int).natAbs = 0 from rfl, limbs_zero]; decide) G.den (by omega)
  rw [shq_zero] at hsh0
  refine OkM.enter Tryz.func70 rfl _ Tryz.ntmps70 rfl (tab_fx T) ?_
  intro S w ρ0 hbor
  have hfix : ∀ e : Ent, ∀ p ∈ (lentM Tryz.prog 66 S w (tabB T) [0] ρ0).fix, (bget [(5, e)] p.1).isSome = true ∨ p.1 ∈ [0] := fun e p hp => by
    obtain ⟨i, hi, rfl⟩ := List.mem_map.1 hp
    exact .inr hi
  (refine Qy (Qx fun K hK => ?_); refine Qv rfl rfl rfl ?_; refine Qj (hK _ _ (Qz (Qy ?_))); clear hK K; refine Qx (fun K hK => ?_); refine Qq rfl rfl rfl ?_)
  refine X5 5 m rfl rfl rfl rfl sFracs (by omega) (by omega) rfl (by exact lines_lt 10 _ _ 5 (by decide)) rfl ?_
  rw [frR_made]
  (refine Qv rfl rfl rfl ?_; refine Qj (hK _ _ (Qz (Qy (Qy ?_)))); clear hK K; refine Qx (fun K hK => ?_); refine Qq rfl rfl rfl ?_)
  refine Ops.lenR m rfl rfl rfl (by decide) (by rw [frR_len]; simp) sFracs.und rfl ?_
  (refine Qq rfl rfl rfl ?_; refine Qj (hK _ _ (Qz (Q2 ?_))); clear hK K)
  refine Ql (α := Nat) (fun j => j ≤ m)
    (fun j => [(0, .own 0), (1, .ct (intC n)), (2, .ct (intC m)), (3, .ct (intC gi)), (9, .own 5), (16, .ct (intC m)), (17, .ct (intC j))])
    (fun j => (5, .row 38 3 (frR (List.replicate j (some 0) ++ List.replicate (m - j) none))) :: tabB T) (fun j => m - j) 0 (Nat.zero_le _) (by exact QZ rfl ⟨rfl, rfl, rfl, rfl, rfl, rfl, rfl, trivial⟩) ?_
  intro j hj
  (try dsimp only at hj ⊢)
  (refine Qy (Qx fun K hK => ?_); refine Qw ilss rfl rfl rfl rfl ?_; refine Qj (hK _ _ (Qz (Qy ?_))); clear hK K)
  refine Q0 rfl (fun h => ?_) (fun h => ?_)
  · have kj : (j : Int).toNat * 3 = j * 3 := by omega
    (refine QU (Qz (Qy (Q2 (Qy (Qx fun K hK => ?_))))); refine Qq rfl rfl rfl ?_; refine Qv rfl rfl rfl ?_; refine Qj (hK _ _ (Qz ?_)); clear hK K; refine Qx (fun K hK => ?_); refine Qq rfl rfl rfl ?_; refine Qq rfl rfl rfl ?_; refine Qq rfl rfl rfl ?_)
    refine QX goof hof rfl rfl rfl rfl ?_
    refine Xu [(5, _)] goshare hsh0 rfl rfl rfl hbor rfl rfl (hfix _) (fun _ _ => ?_)
    skip
    refine Xv m rfl rfl rfl (by rw [frR_len]; simp; omega) rfl sFracs (by omega) (by omega) rfl ?_
    rw [kj]
    refine stFr rfl rfl rfl rfl (by simp; omega) szFrac ?_
    rw [rep_set m j (by omega)]
    (refine Qj (hK _ _ (Qz ?_)); clear hK K; refine Qx (fun K hK => ?_); refine Qw (iadd (by omega) (by omega)) rfl rfl rfl rfl ?_; refine Qq rfl rfl rfl ?_; refine Qj (hK _ _ (Q5 ?_)); clear hK K)
    refine Q8 (j + 1) (by omega) (by omega) (by exact QZ rfl ⟨rfl, rfl, rfl, rfl, rfl, rfl, by simp only [Int.natCast_add]; rfl, trivial⟩)
  have hjn : j = m := by omega
  subst hjn
  rw [Nat.sub_self, List.replicate_zero, List.append_nil, show List.replicate j (some (0 : Rat)) = (duS T n j gi 0).map some by simp [duS]]
  (refine Qe (Qz (Qy (Qy (Qx fun K hK => ?_)))); refine Qq rfl rfl rfl ?_; refine Q1 rfl rfl rfl rfl ?_; refine QV rfl rfl rfl (by with_reducible first | exact fW0 | exact fW1 | exact fT0 | exact fT1 | exact fT2 | exact fT3 | exact fR0 | exact fR1) rfl ?_; refine QJ rfl rfl rfl rfl rfl (by with_reducible first | exact lInt | exact lNat | exact lBool | exact lInts | exact lMat | exact lWhs) rfl ?_)
  refine X1 3 T.col.length rfl rfl rfl (by decide) (by simp) sInts.und rfl ?_
  (refine Qq rfl rfl rfl ?_; refine Qj (hK _ _ (Qz (Q2 ?_))); clear hK K)
  refine Ql (α := Nat) (fun i => i ≤ T.col.length)
    (fun i => [(0, .own 0), (1, .ct (intC n)), (2, .ct (intC j)), (3, .ct (intC gi)), (9, .own 5), (30, .ct (.ex T.hC)), (31, .ct (intC T.col.length)), (32, .ct (intC i))])
    (fun i => (5, .row 38 3 (frR ((duS T n j gi i).map some))) :: tabB T) (fun i => T.col.length - i) 0 (Nat.zero_le _) (by exact QZ rfl ⟨rfl, rfl, rfl, rfl, rfl, rfl, rfl, rfl, trivial⟩) ?_
  intro i hi
  (try dsimp only at hi ⊢)
  have hpl := duS_len T n j gi i
  have es : duS T n j gi (i + 1) = if (n : Int) ≤ T.col.getD i 0 ∧ T.col.getD i 0 < n + j then (duS T n j gi i).set (T.col.getD i 0 - n).toNat (shq (T.at gi i) T.den) else duS T n j gi i := rfl
  have hbi := hb i
  generalize hcur : duS T n j gi i = cur at *
  simp only [tabB]
  (refine Qy (Qx fun K hK => ?_); refine Qw ilss rfl rfl rfl rfl ?_; refine Qj (hK _ _ (Qz (Qy ?_))); clear hK K)
  refine Q0 rfl (fun h => ?_) (fun h => ?_)
  · have ki : (i : Int).toNat * 1 = i := by omega
    have ki2 : (i : Int).toNat * 2 = i * 2 := by omega
    have sa := G.short gi i
    have hsh := share_ok T (T.at gi i) (by omega) G.den (by omega)
    (refine QU (Qz (Qy (Q2 (Qy (Qx fun K hK => ?_))))); refine Qq rfl rfl rfl ?_)
    refine Qi 3 T.col.length rfl rfl rfl (by simp) rfl sInts (by omega) (by omega) rfl ?_
    rw [ki]
    refine QJ rfl rfl rfl rfl (ints_get (by omega)) lInt rfl ?_
    generalize T.col.getD i 0 = v at *
    (refine Qv rfl rfl rfl ?_; refine Qv rfl rfl rfl ?_; refine Qj (hK _ _ (Qz (Qy ?_))); clear hK K; refine Qx (fun K hK => ?_); refine Qq rfl rfl rfl ?_; refine Qq rfl rfl rfl ?_; refine Qw igeq rfl rfl rfl rfl ?_; refine Qq rfl rfl rfl ?_)
    have stay : ¬ ((n : Int) ≤ v ∧ v < n + j) → duS T n j gi (i + 1) = cur := fun h => by rw [es, if_neg h]
    refine Qg 40 rfl (fun h2 => ?_) (fun h2 => ?_)
    · (refine Qq rfl rfl rfl ?_; refine Qq rfl rfl rfl ?_; refine Qq rfl rfl rfl ?_; refine Qw (iadd (by omega) (by omega)) rfl rfl rfl rfl ?_; refine Qw ilss rfl rfl rfl rfl ?_; refine Q7 rfl rfl rfl rfl ?_; refine Qj (hK _ _ (Qz ?_)); clear hK K)
      refine Q0 rfl (fun h3 => ?_) (fun h3 => ?_)
      · rw [if_pos ⟨h2, h3⟩] at es
        (refine Qx (fun K hK => ?_); refine Qq rfl rfl rfl ?_; refine Qq rfl rfl rfl ?_; refine Qq rfl rfl rfl ?_; refine Qw (isub (by omega) (by omega)) rfl rfl rfl rfl ?_; refine Qq rfl rfl rfl ?_; refine Qq rfl rfl rfl ?_; refine Q1 rfl rfl rfl rfl ?_; refine QV rfl rfl rfl (by with_reducible first | exact fW0 | exact fW1 | exact fT0 | exact fT1 | exact fT2 | exact fT3 | exact fR0 | exact fR1) rfl ?_; refine QJ rfl rfl rfl rfl rfl (by with_reducible first | exact lInt | exact lNat | exact lBool | exact lInts | exact lMat | exact lWhs) rfl ?_; refine Qq rfl rfl rfl ?_)
        refine Qi 1 T.rows.length rfl rfl rfl (by simp [hhl]) rfl sMat (by omega) (by omega) rfl ?_
        rw [kg]
        refine QJ rfl rfl rfl rfl (hl_get (by omega)) lWhs rfl ?_
        (refine Qq rfl rfl rfl ?_)
        refine Qi (gi + 10) (T.col.length + 1) rfl rfl (lines_get (by omega) hgi) (by rw [whs_len, hrow]) rfl sWhs (by omega) (by omega) rfl ?_
        rw [ki2]
        refine ldWh rfl rfl rfl (lines_get (by omega) hgi) rfl (by omega) lWh rfl ?_
        refine Xu [(5, _)] goshare hsh rfl rfl rfl hbor rfl rfl (hfix _) (fun _ _ => ?_)
        skip
        refine Xv j rfl rfl rfl (by rw [frR_len]; simp; omega) rfl sFracs (by omega) (by omega) rfl ?_
        refine stFr rfl rfl rfl rfl (by simp; omega) szFrac ?_
        rw [show (cur.map some).set (v - n).toNat (some (shq (T.at gi i) T.den)) = (duS T n j gi (i + 1)).map some by rw [es, List.map_set]]
        (refine Qj (hK _ _ (Qz ?_)); clear hK K; refine Qx (fun K hK => ?_); refine Qw (iadd (by omega) (by omega)) rfl rfl rfl rfl ?_; refine Qq rfl rfl rfl ?_; refine Qj (hK _ _ (Q5 ?_)); clear hK K)
        refine Q8 (i + 1) (by omega) (by omega) (by exact QZ rfl ⟨rfl, rfl, rfl, rfl, rfl, rfl, rfl, by simp only [Int.natCast_add]; rfl, trivial⟩)
      · (refine QU (Qz (Qx fun K hK => ?_)); refine Qw (iadd (by omega) (by omega)) rfl rfl rfl rfl ?_; refine Qq rfl rfl rfl ?_; refine Qj (hK _ _ (Q5 ?_)); clear hK K)
        refine Q8 (i + 1) (by omega) (by omega) (by exact QZ (by rw [stay (fun h => h3 h.2)]) ⟨rfl, rfl, rfl, rfl, rfl, rfl, rfl, by simp only [Int.natCast_add]; rfl, trivial⟩)
    · (refine Qk rfl rfl rfl ?_; refine Qk rfl rfl rfl ?_; refine Qk rfl rfl rfl ?_; refine Qk rfl rfl rfl ?_; refine Qk rfl rfl rfl ?_; refine Q6 rfl rfl rfl rfl ?_; refine Qj (hK _ _ (Qz (Qs rfl (QU (Qz ?_))))); clear hK K; refine Qx (fun K hK => ?_); refine Qw (iadd (by omega) (by omega)) rfl rfl rfl rfl ?_; refine Qq rfl rfl rfl ?_; refine Qj (hK _ _ (Q5 ?_)); clear hK K)
      refine Q8 (i + 1) (by omega) (by omega) (by exact QZ (by rw [stay (fun h => h2 h.1)]) ⟨rfl, rfl, rfl, rfl, rfl, rfl, rfl, by simp only [Int.natCast_add]; rfl, trivial⟩)
  · have hi' : i = T.col.length := by omega
    subst hi'
    refine XW 5 _ rfl (frR_frozen _ _) hbor ?_
    (refine Qe (Qz (Qy (Qx fun K hK => ?_))); refine Qq rfl rfl rfl ?_; refine Qv rfl rfl rfl ?_; refine Qj (hK _ _ (Qz (Q3 ?_))); clear hK K)
    refine Fin.retMS () [_] rfl (QQ rfl Qu) (by rw [hcur]; rfl) (tab_del (by decide) (by decide)) (tab_fx T) trivial
end Go.Proofs.YtdhmbgogmoaofaaGreat
namespace Go.Own
open Go.RowKit
variable {X : Ctx} {L : AL} {B : BL} {ops : Array Oper} {K : Act → World → Prop} {r : Pl} {k : Kd}
  {x y z : Operand} {d : Nat} {t t2 t' : TypeId} {pos : String} {af : Array Edge} {g : Option (Nat × Bool)}
theorem St.cutN {c y : Code} {Q : Exit → Act → World → Prop} {α : Type} (J : α → Prop) (Lx : α → AL) (Bx : α → BL) (h1 : ∀ q, J q → St X (Lx q) (Bx q) y Q)
    (h2 : ∀ K : Exit → Act → World → Prop, (∀ q, J q → Fin X (Lx q) (Bx q) (fun a w => K .normal a w)) → St X L B c K) : St X L B c (Exit.then (y.wp X.P Q) Q) :=
  h2 _ (fun q hq => h1 q hq)
theorem Fin.nameS (dd i m : Nat) {el n : Nat} {cs : List CT} (hd : look L dd = some (.own i)) (hi : bget B i = some (.row el n cs)) (hl : cs.length = m * n) (hm : 0 < m) (hp : 0 < n)
    (h : ∀ gb c, m ≤ c → c ≤ maxLen → Fin X ((dd, .ct (.ex (.slice (some ⟨gb, 0, none⟩) m c))) :: L) (bset B i (.rowx (.slice (some ⟨gb, 0, none⟩) m c) el n cs)) K) : Fin X L B K := fun a ρ w hI => by
  have h1 : a.tmps.getD dd undef = ρ i := hI.slot dd _ hd
  obtain ⟨n', vs, how, hc⟩ := (hI.ent i _ hi).1
  have hl' := hc.length
  rw [how.1, hl] at hl'
  have hnm : n' = m := Nat.eq_of_mul_eq_mul_right hp hl'
  subst hnm
  rcases how.2 with ⟨h2, h3⟩ | ⟨gb, cap, cur, h2, h3, h4, h5, h6⟩
  · omega
  · have hx : (Ent.rowx (.slice (some ⟨gb, 0, none⟩) n' cap) el n cs).ok (Sof X B ρ) w (ρ i) := ⟨h2, n', vs, how, hc⟩
    refine h gb cap (by omega) ?_ a ρ w ((hI.retype (e' := .rowx (.slice (some ⟨gb, 0, none⟩) n' cap) el n cs) hi hx rfl).slotx (s := .ct (.ex _)) (h1.trans h2))
    omega
end Go.Own
namespace Go.Proofs.YtdhmbgogmoaofaaGreat
open Go.Own Go.Limbs
attribute [local irreducible] St Ops Go.Own.Fin Ok OkM
def raS (T : Tv) (n s : Nat) : Nat → List Rat
  | 0 => if T.col.getD s 0 < n then (List.replicate n 0).set (T.col.getD s 0).toNat (shq T.den T.den) else List.replicate n 0
  | i + 1 => if T.bas.getD i 0 < n then (raS T n s i).set (T.bas.getD i 0).toNat (shq (-(T.at i s)) T.den) else raS T n s i
theorem raS_len (T : Tv) (n s : Nat) : ∀ i, (raS T n s i).length = n
  | 0 => by simp only [raS]; split <;> simp
  | i + 1 => by simp only [raS]; split <;> simp [raS_len T n s i]
theorem goray : InGo Tryz.prog 73 := InGo.of Tryz.func73 (by kernel_rfl) (by kernel_rfl)
set_option maxHeartbeats 8000000 in
theorem ray_ok (T : Tv) (G : Gd T) (n s : Nat) (hn : n ≤ 100) (hs : s < T.col.length) (hb : ∀ i, 0 ≤ T.bas.getD i 0) (hc : ∀ i, 0 ≤ T.col.getD i 0) : OkM Tryz.prog 73 [.own 0, .ct (intC n), .ct (intC s)] (tabB T) [0] (fun _ : Unit => True) (fun _ => .ct (fracsC ((raS T n s T.bas.length).map ofQ))) (fun _ => tabB T) := by
  have hfew := G.fit.few
  have hthin := G.fit.thin
  have hhl := G.fit.hl
  have hbas := G.fit.bas
  have hDs := G.dens
  have ks : (s : Int).toNat * 1 = s := by omega
  have ks2 : (s : Int).toNat * 2 = s * 2 := by omega
  have hof := of_ok 0 (by decide) (by decide)
  have hsh0 := share_ok T 0 (by rw [show (0 : Int).natAbs = 0 from rfl, limbs_zero]; decide) G.den (by omega)
  rw [shq_zero] at hsh0
  have hsh1 := share_ok T T.den (by omega) G.den (by omega)
  have hcs := hc s
  refine OkM.enter Tryz.func73 rfl _ Tryz.ntmps73 rfl (tab_fx T) ?_
  intro S w ρ0 hbor
  have hfix : ∀ e : Ent, ∀ p ∈ (lentM Tryz.prog 76 S w (tabB T) [0] ρ0).fix, (bget [(5, e)] p.1).isSome = true ∨ p.1 ∈ [0] := fun e p hp => by
    obtain ⟨i, hi, rfl⟩ := List.mem_map.1 hp
    exact .inr hi
  (refine Qy (Qx fun K hK => ?_); refine Qv rfl rfl rfl ?_; refine Qj (hK _ _ (Qz (Qy ?_))); clear hK K; refine Qx (fun K hK => ?_); refine Qq rfl rfl rfl ?_)
  refine X5 5 n rfl rfl rfl rfl sFracs (by omega) (by omega) rfl (by exact lines_lt 10 _ _ 5 (by decide)) rfl ?_
  rw [frR_made]
  (refine Qv rfl rfl rfl ?_; refine Qj (hK _ _ (Qz (Qy (Qy ?_)))); clear hK K; refine Qx (fun K hK => ?_); refine Qq rfl rfl rfl ?_)
  refine Ops.lenR n rfl rfl rfl (by decide) (by rw [frR_len]; simp) sFracs.und rfl ?_
  (refine Qq rfl rfl rfl ?_; refine Qj (hK _ _ (Qz (Q2 ?_))); clear hK K)
  refine Ql (α := Nat) (fun j => j ≤ n)
    (fun j => [(0, .own 0), (1, .ct (intC n)), (2, .ct (intC s)), (7, .own 5), (15, .ct (intC n)), (16, .ct (intC j))])
    (fun j => (5, .row 38 3 (frR (List.replicate j (some 0) ++ List.replicate (n - j) none))) :: tabB T) (fun j => n - j) 0 (Nat.zero_le _) (by exact QZ rfl ⟨rfl, rfl, rfl, rfl, rfl, rfl, trivial⟩) ?_
  intro j hj
  (try dsimp only at hj ⊢)
  (refine Qy (Qx fun K hK => ?_); refine Qw ilss rfl rfl rfl rfl ?_; refine Qj (hK _ _ (Qz (Qy ?_))); clear hK K)
  refine Q0 rfl (fun h => ?_) (fun h => ?_)
  · have kj : (j : Int).toNat * 3 = j * 3 := by omega
    (refine QU (Qz (Qy (Q2 (Qy (Qx fun K hK => ?_))))); refine Qq rfl rfl rfl ?_; refine Qv rfl rfl rfl ?_; refine Qj (hK _ _ (Qz ?_)); clear hK K; refine Qx (fun K hK => ?_); refine Qq rfl rfl rfl ?_; refine Qq rfl rfl rfl ?_; refine Qq rfl rfl rfl ?_)
    refine QX goof hof rfl rfl rfl rfl ?_
    refine Xu [(5, _)] goshare hsh0 rfl rfl rfl hbor rfl rfl (hfix _) (fun _ _ => ?_)
    skip
    refine Xv n rfl rfl rfl (by rw [frR_len]; simp; omega) rfl sFracs (by omega) (by omega) rfl ?_
    rw [kj]
    refine stFr rfl rfl rfl rfl (by simp; omega) szFrac ?_
    rw [rep_set n j (by omega)]
    (refine Qj (hK _ _ (Qz ?_)); clear hK K; refine Qx (fun K hK => ?_); refine Qw (iadd (by omega) (by omega)) rfl rfl rfl rfl ?_; refine Qq rfl rfl rfl ?_; refine Qj (hK _ _ (Q5 ?_)); clear hK K)
    refine Q8 (j + 1) (by omega) (by omega) (by exact QZ rfl ⟨rfl, rfl, rfl, rfl, rfl, by simp only [Int.natCast_add]; rfl, trivial⟩)
  have hjn : j = n := by omega
  subst hjn
  rw [Nat.sub_self, List.replicate_zero, List.append_nil]
  (refine Qe (Qz (Qy (Qy (Qx fun K hK => ?_)))); refine Qq rfl rfl rfl ?_; refine Q1 rfl rfl rfl rfl ?_; refine QV rfl rfl rfl (by with_reducible first | exact fW0 | exact fW1 | exact fT0 | exact fT1 | exact fT2 | exact fT3 | exact fR0 | exact fR1) rfl ?_; refine QJ rfl rfl rfl rfl rfl (by with_reducible first | exact lInt | exact lNat | exact lBool | exact lInts | exact lMat | exact lWhs) rfl ?_; refine Qq rfl rfl rfl ?_)
  refine Qi 3 T.col.length rfl rfl rfl (by simp) rfl sInts (by omega) (by omega) rfl ?_
  rw [ks]
  refine QJ rfl rfl rfl rfl (ints_get (by omega)) lInt rfl ?_
  have r0 : raS T j s 0 = if T.col.getD s 0 < j then (List.replicate j 0).set (T.col.getD s 0).toNat (shq T.den T.den) else List.replicate j 0 := rfl
  generalize T.col.getD s 0 = cs at *
  (refine Qv rfl rfl rfl ?_; refine Qj (hK _ _ (Qz (Qy ?_))); clear hK K; refine Qx (fun K hK => ?_); refine Qq rfl rfl rfl ?_; refine Qq rfl rfl rfl ?_; refine Qw ilss rfl rfl rfl rfl ?_; refine Qj (hK _ _ (Qz ?_)); clear hK K)
  refine St.cutN (α := Unit) (fun _ => True) (fun _ => [(0, .own 0), (1, .ct (intC j)), (2, .ct (intC s)), (7, .own 5)]) (fun _ => (5, .row 38 3 (frR ((raS T j s 0).map some))) :: tabB T) (fun _ _ => ?_) (fun KK hN => ?_)
  · clear r0
    (refine Qy (Qy (Qx fun K hK => ?_)); refine Qq rfl rfl rfl ?_; refine Q1 rfl rfl rfl rfl ?_; refine QV rfl rfl rfl (by with_reducible first | exact fW0 | exact fW1 | exact fT0 | exact fT1 | exact fT2 | exact fT3 | exact fR0 | exact fR1) rfl ?_; refine QJ rfl rfl rfl rfl rfl (by with_reducible first | exact lInt | exact lNat | exact lBool | exact lInts | exact lMat | exact lWhs) rfl ?_)
    refine X1 2 T.bas.length rfl rfl rfl (by decide) (by simp) sInts.und rfl ?_
    (refine Qq rfl rfl rfl ?_; refine Qj (hK _ _ (Qz (Q2 ?_))); clear hK K)
    refine Ql (α := Nat) (fun i => i ≤ T.bas.length)
      (fun i => [(0, .own 0), (1, .ct (intC j)), (2, .ct (intC s)), (7, .own 5), (48, .ct (.ex T.hB)), (49, .ct (intC T.bas.length)), (50, .ct (intC i))])
      (fun i => (5, .row 38 3 (frR ((raS T j s i).map some))) :: tabB T) (fun i => T.bas.length - i) 0 (Nat.zero_le _) (by exact QZ rfl ⟨rfl, rfl, rfl, rfl, rfl, rfl, rfl, trivial⟩) ?_
    intro i hi
    (try dsimp only at hi ⊢)
    have hpl := raS_len T j s i
    have es : raS T j s (i + 1) = if T.bas.getD i 0 < j then (raS T j s i).set (T.bas.getD i 0).toNat (shq (-(T.at i s)) T.den) else raS T j s i := rfl
    have hbi := hb i
    generalize hcur : raS T j s i = cur at *
    simp only [tabB]
    (refine Qy (Qx fun K hK => ?_); refine Qw ilss rfl rfl rfl rfl ?_; refine Qj (hK _ _ (Qz (Qy ?_))); clear hK K)
    refine Q0 rfl (fun h => ?_) (fun h => ?_)
    · have hi2 : i < T.rows.length := by omega
      have hrow := G.fit.row i hi2
      have ki : (i : Int).toNat * 1 = i := by omega
      have sa := G.short i s
      have hsh := share_ok T (-(T.at i s)) (Nat.le_trans (neg_short sa) (by decide)) G.den (by omega)
      (refine QU (Qz (Qy (Q2 (Qy (Qx fun K hK => ?_))))); refine Qq rfl rfl rfl ?_)
      refine Qi 2 T.bas.length rfl rfl rfl (by simp) rfl sInts (by omega) (by omega) rfl ?_
      rw [ki]
      refine QJ rfl rfl rfl rfl (ints_get (by omega)) lInt rfl ?_
      generalize T.bas.getD i 0 = v at *
      (refine Qv rfl rfl rfl ?_; refine Qv rfl rfl rfl ?_; refine Qj (hK _ _ (Qz (Qy ?_))); clear hK K; refine Qx (fun K hK => ?_); refine Qq rfl rfl rfl ?_; refine Qq rfl rfl rfl ?_; refine Qw ilss rfl rfl rfl rfl ?_; refine Qj (hK _ _ (Qz ?_)); clear hK K)
      refine Q0 rfl (fun h2 => ?_) (fun h2 => ?_)
      · rw [if_pos h2] at es
        (refine Qx (fun K hK => ?_); refine Qq rfl rfl rfl ?_; refine Qq rfl rfl rfl ?_; refine Qq rfl rfl rfl ?_; refine Qq rfl rfl rfl ?_; refine Q1 rfl rfl rfl rfl ?_; refine QV rfl rfl rfl (by with_reducible first | exact fW0 | exact fW1 | exact fT0 | exact fT1 | exact fT2 | exact fT3 | exact fR0 | exact fR1) rfl ?_; refine QJ rfl rfl rfl rfl rfl (by with_reducible first | exact lInt | exact lNat | exact lBool | exact lInts | exact lMat | exact lWhs) rfl ?_; refine Qq rfl rfl rfl ?_)
        refine Qi 1 T.rows.length rfl rfl rfl (by simp [hhl]) rfl sMat (by omega) (by omega) rfl ?_
        rw [ki]
        refine QJ rfl rfl rfl rfl (hl_get (by omega)) lWhs rfl ?_
        (refine Qq rfl rfl rfl ?_)
        refine Qi (i + 10) (T.col.length + 1) rfl rfl (lines_get (by omega) hi2) (by rw [whs_len, hrow]) rfl sWhs (by omega) (by omega) rfl ?_
        rw [ks2]
        refine ldWh rfl rfl rfl (lines_get (by omega) hi2) rfl (by omega) lWh rfl ?_
        refine QX gominus (minus_ok (T.at i s)) rfl rfl rfl rfl ?_
        refine Xu [(5, _)] goshare hsh rfl rfl rfl hbor rfl rfl (hfix _) (fun _ _ => ?_)
        skip
        refine Xv j rfl rfl rfl (by rw [frR_len]; simp; omega) rfl sFracs (by omega) (by omega) rfl ?_
        refine stFr rfl rfl rfl rfl (by simp; omega) szFrac ?_
        rw [show (cur.map some).set v.toNat (some (shq (-(T.at i s)) T.den)) = (raS T j s (i + 1)).map some by rw [es, List.map_set]]
        (refine Qj (hK _ _ (Qz ?_)); clear hK K; refine Qx (fun K hK => ?_); refine Qw (iadd (by omega) (by omega)) rfl rfl rfl rfl ?_; refine Qq rfl rfl rfl ?_; refine Qj (hK _ _ (Q5 ?_)); clear hK K)
        refine Q8 (i + 1) (by omega) (by omega) (by exact QZ rfl ⟨rfl, rfl, rfl, rfl, rfl, rfl, by simp only [Int.natCast_add]; rfl, trivial⟩)
      · rw [if_neg h2] at es
        (refine QU (Qz (Qx fun K hK => ?_)); refine Qw (iadd (by omega) (by omega)) rfl rfl rfl rfl ?_; refine Qq rfl rfl rfl ?_; refine Qj (hK _ _ (Q5 ?_)); clear hK K)
        refine Q8 (i + 1) (by omega) (by omega) (by exact QZ (by rw [es]) ⟨rfl, rfl, rfl, rfl, rfl, rfl, by simp only [Int.natCast_add]; rfl, trivial⟩)
    · have hi' : i = T.bas.length := by omega
      subst hi'
      refine XW 5 _ rfl (frR_frozen _ _) hbor ?_
      (refine Qe (Qz (Qy (Qx fun K hK => ?_))); refine Qq rfl rfl rfl ?_; refine Qv rfl rfl rfl ?_; refine Qj (hK _ _ (Qz (Q3 ?_))); clear hK K)
      refine Fin.retMS () [_] rfl (QQ rfl Qu) (by rw [hcur]; rfl) (tab_del (by decide) (by decide)) (tab_fx T) trivial
  · refine Q0 rfl (fun h2 => ?_) (fun h2 => ?_)
    · rw [if_pos h2] at r0
      (refine Qx (fun K hK => ?_); refine Qq rfl rfl rfl ?_; refine Qq rfl rfl rfl ?_; refine Qq rfl rfl rfl ?_; refine Qq rfl rfl rfl ?_; refine Q1 rfl rfl rfl rfl ?_; refine QV rfl rfl rfl (by with_reducible first | exact fW0 | exact fW1 | exact fT0 | exact fT1 | exact fT2 | exact fT3 | exact fR0 | exact fR1) rfl ?_)
      refine X7 (n := 2) rfl rfl rfl rfl (Nat.le_of_ble_eq_true rfl) (by with_reducible exact lWh) rfl ?_
      refine Xu [(5, _)] goshare hsh1 rfl rfl rfl hbor rfl rfl (hfix _) (fun _ _ => ?_)
      skip
      refine Xv j rfl rfl rfl (by rw [frR_len]; simp) rfl sFracs (by omega) (by omega) rfl ?_
      refine stFr rfl rfl rfl rfl (by simp; omega) szFrac ?_
      rw [show (List.replicate j (some (0 : Rat))).set cs.toNat (some (shq T.den T.den)) = (raS T j s 0).map some by rw [r0, List.map_set, List.map_replicate]]
      (refine Qj (hK _ _ ?_); clear hK K)
      exact XU hN () trivial (by exact QZ rfl ⟨rfl, rfl, rfl, rfl, trivial⟩)
    · rw [if_neg h2] at r0
      (refine QU ?_)
      exact XU hN () trivial (by exact QZ (by rw [r0, List.map_replicate]) ⟨rfl, rfl, rfl, rfl, trivial⟩)
end Go.Proofs.YtdhmbgogmoaofaaGreat
namespace Go.Own
open Go.RowKit
inductive Oq where
  | done
  | non
  | p (i : Nat) (r : Oq)
  | f (i : Nat) (r : Oq)
  | m (i : Nat) (r o : Oq)
  | a (i : Nat) (r o : Oq)
def wpQ (P : Program) (l : List Oper) (K : Act → World → Prop) : Oq → Act → World → Prop
  | .done, a, w => K a w
  | .non, _, _ => True
  | .p i r, a, w => ∃ v, Yields P l.toArray (nth l i) v a ∧ wpQ P l K r (a.put (nth l i).dst v) w
  | .f i r, a, w => ∃ v, YieldsIf P l.toArray (fun w' => Below w.heap.size w w') (nth l i) v a ∧ wpQ P l K r (a.put (nth l i).dst v) w
  | .m i r o, a, w => wpO P l.toArray (fun a' w' => Below w.heap.size w w' ∧ wpQ P l K r a' w') (nth l i) a w ∧ wpQ P l K o a w
  | .a i r o, a, w => wpO P l.toArray (fun a' w' => wpQ P l K r a' w') (nth l i) a w ∧ wpQ P l K o a w
def altsQ : Oq → List Nat
  | .m i _ o => i :: altsQ o
  | .a i _ o => i :: altsQ o
  | _ => []
def chkQ (ops : Array Oper) (late : List Nat) : Bool → Oq → Nat → Array Bool → Bool
  | true, .done, _, listed => (Region.ready .any ops listed).isEmpty
  | true, .p i r, n + 1, listed => (Region.ready .any ops listed).contains i && Region.free .any ops listed i && chkQ ops late true r n (listed.setIfInBounds i true)
  | true, .f i r, n + 1, listed => (Region.ready .any ops listed).contains i && Region.free .any ops listed i && waitsL ops late listed i && chkQ ops late true r n (listed.setIfInBounds i true)
  | tp, .m i r o, n + 1, listed => (!tp || Region.ready .any ops listed == altsQ (.m i r o)) && !late.contains i && chkQ ops late true r n (listed.setIfInBounds i true) && chkQ ops late false o (n + 1) listed
  | tp, .a i r o, n + 1, listed => (!tp || Region.ready .any ops listed == altsQ (.a i r o)) && late.contains i && chkQ ops late true r n (listed.setIfInBounds i true) && chkQ ops late false o (n + 1) listed
  | false, .non, _, _ => true
  | _, _, _, _ => false
theorem anyL_ofQ {P : Program} {l : List Oper} {K : Act → World → Prop} {late : List Nat} (hs : Region.noSelect l.toArray = true) :
    ∀ (ord : Oq) (fuel : Nat) (listed : Array Bool) (a : Act) (w : World), Shut l.toArray listed →
      (chkQ l.toArray late true ord fuel listed = true → wpQ P l K ord a w → wpAnyL P l.toArray K late fuel listed a w) ∧
      (∀ f, fuel = f + 1 → chkQ l.toArray late false ord fuel listed = true → wpQ P l K ord a w → ∀ j ∈ altsQ ord, j ∈ Region.ready .any l.toArray listed → wpOp P l.toArray (only K) j (fun a' w' => (late.contains j = false → Below w.heap.size w w') ∧ wpAnyL P l.toArray K late f (listed.setIfInBounds j true) a' w') a w) := by
  have hidx : ∀ {listed : Array Bool} {i : Nat}, i ∈ Region.ready .any l.toArray listed → l.toArray[i]? = some (nth l i) := fun h => nth_eq (by simpa using ready_lt h)
  intro ord
  induction ord with
  | done =>
    intro fuel listed a w _
    refine ⟨fun hc h => ?_, fun f hf hc h j hj => by cases hj⟩
    have hr : Region.ready .any l.toArray listed = [] := by
      cases fuel <;> simpa [chkQ] using hc
    cases fuel with
    | zero => exact ⟨hr, h⟩
    | succ f => exact ⟨fun _ => h, by rw [hr]; simp⟩
  | non => intro fuel listed a w _; exact ⟨fun hc h => by simp [chkQ] at hc, fun f hf hc h j hj => by cases hj⟩
  | p i r ih =>
    intro fuel listed a w hsh
    refine ⟨fun hc h => ?_, fun f hf hc h j hj => by cases hj⟩
    cases fuel with
    | zero => simp [chkQ] at hc
    | succ f =>
      simp only [chkQ, Bool.and_eq_true] at hc
      obtain ⟨⟨hr, hfr⟩, hc2⟩ := hc
      have hr' : i ∈ Region.ready .any l.toArray listed := by simpa using hr
      obtain ⟨v, hy, h⟩ := h
      exact wpAnyL_firstP (hidx hr') (Region.noSelect_spec hs) f listed a w (Region.free_spec (hidx hr') hfr) hr' hy ((ih f _ _ _ (hsh.step hr')).1 hc2 h)
  | f i r ih =>
    intro fuel listed a w hsh
    refine ⟨fun hc h => ?_, fun f hf hc h j hj => by cases hj⟩
    cases fuel with
    | zero => simp [chkQ] at hc
    | succ f =>
      simp only [chkQ, Bool.and_eq_true] at hc
      obtain ⟨⟨⟨hr, hfr⟩, hw⟩, hc2⟩ := hc
      have hr' : i ∈ Region.ready .any l.toArray listed := by simpa using hr
      obtain ⟨v, hy, h⟩ := h
      exact wpAnyL_first (hidx hr') (Region.noSelect_spec hs) hw f listed a w hsh (fun _ h => h) (Region.free_spec (hidx hr') hfr) hr' hy ((ih f _ _ _ (hsh.step hr')).1 hc2 h)
  | m i r o ih1 ih2 =>
    have key : ∀ (fuel : Nat) (listed : Array Bool) (a : Act) (w : World), Shut l.toArray listed → ∀ f, fuel = f + 1 → chkQ l.toArray late false (.m i r o) fuel listed = true → wpQ P l K (.m i r o) a w → ∀ j ∈ altsQ (.m i r o), j ∈ Region.ready .any l.toArray listed → wpOp P l.toArray (only K) j (fun a' w' => (late.contains j = false → Below w.heap.size w w') ∧ wpAnyL P l.toArray K late f (listed.setIfInBounds j true) a' w') a w := by
      intro fuel listed a w hsh f hf hc h j hj hr
      subst hf
      simp only [chkQ, Bool.and_eq_true] at hc
      obtain ⟨⟨_, hc1⟩, hc2⟩ := hc
      rcases List.mem_cons.1 hj with rfl | hj
      · exact wpOp_of_O (hidx hr) (wpO_mono h.1 fun a' w' h' => ⟨fun _ => h'.1, (ih1 f _ _ _ (hsh.step hr)).1 hc1 h'.2⟩)
      · exact (ih2 (f + 1) listed a w hsh).2 f rfl hc2 h.2 j hj hr
    intro fuel listed a w hsh
    refine ⟨fun hc h => ?_, key fuel listed a w hsh⟩
    cases fuel with
    | zero => simp [chkQ] at hc
    | succ f =>
      simp only [chkQ, Bool.and_eq_true, Bool.not_true, Bool.false_or, beq_iff_eq] at hc
      obtain ⟨⟨⟨hr, hN⟩, hc1⟩, hc2⟩ := hc
      refine ⟨(fun h0 => by rw [hr] at h0; simp [altsQ] at h0), fun j hj => ?_⟩
      exact key (f + 1) listed a w hsh f rfl (by simp only [chkQ, hN, hc1, hc2, Bool.not_false, Bool.true_or, Bool.and_self]) h j (by rw [← hr]; exact hj) hj
  | a i r o ih1 ih2 =>
    have key : ∀ (fuel : Nat) (listed : Array Bool) (a : Act) (w : World), Shut l.toArray listed → ∀ f, fuel = f + 1 → chkQ l.toArray late false (.a i r o) fuel listed = true → wpQ P l K (.a i r o) a w → ∀ j ∈ altsQ (.a i r o), j ∈ Region.ready .any l.toArray listed → wpOp P l.toArray (only K) j (fun a' w' => (late.contains j = false → Below w.heap.size w w') ∧ wpAnyL P l.toArray K late f (listed.setIfInBounds j true) a' w') a w := by
      intro fuel listed a w hsh f hf hc h j hj hr
      subst hf
      simp only [chkQ, Bool.and_eq_true] at hc
      obtain ⟨⟨⟨_, hl⟩, hc1⟩, hc2⟩ := hc
      rcases List.mem_cons.1 hj with rfl | hj
      · exact wpOp_of_O (hidx hr) (wpO_mono h.1 fun a' w' h' => ⟨(fun hlt => by rw [hlt] at hl; cases hl), (ih1 f _ _ _ (hsh.step hr)).1 hc1 h'⟩)
      · exact (ih2 (f + 1) listed a w hsh).2 f rfl hc2 h.2 j hj hr
    intro fuel listed a w hsh
    refine ⟨fun hc h => ?_, key fuel listed a w hsh⟩
    cases fuel with
    | zero => simp [chkQ] at hc
    | succ f =>
      simp only [chkQ, Bool.and_eq_true, Bool.not_true, Bool.false_or, beq_iff_eq] at hc
      obtain ⟨⟨⟨hr, hN⟩, hc1⟩, hc2⟩ := hc
      refine ⟨(fun h0 => by rw [hr] at h0; simp [altsQ] at h0), fun j hj => ?_⟩
      exact key (f + 1) listed a w hsh f rfl (by simp only [chkQ, hN, hc1, hc2, Bool.not_false, Bool.true_or, Bool.and_self]) h j (by rw [← hr]; exact hj) hj
variable {X : Ctx} {L : AL} {B : BL} {K : Act → World → Prop}
theorem St.drawQ {id : Nat} {l : List Oper} {Q : Exit → Act → World → Prop} (hm : X.P.follows .mixedOrders = true) (late : List Nat) (ord : Oq)
    (hc : (Region.noSelect l.toArray && chkQ l.toArray late true ord l.length (Array.replicate l.length false)) = true)
    (h : ∀ K, (∀ L' B', Fin X L' B' (fun a w => Q .normal a w) → Fin X L' B' K) → Fin X L B (wpQ X.P l K ord)) : St X L B (.region id l.toArray true) Q := by
  intro a ρ w hI
  simp only [Bool.and_eq_true] at hc
  obtain ⟨hs, hc⟩ := hc
  have h1 := h _ (fun _ _ h => h) a ρ _ (hI.below (Below.drewOnce w))
  have h2 := (anyL_ofQ hs ord l.length _ a _ (Shut.start _ _)).1 hc h1
  have h3 := wpAny_of_L _ _ _ _ h2
  refine Go.wp_mono (wp_region_any (Q := only fun a w => Q .normal a w) hm ?_) ?_
  · simpa using h3
  · intro e a w h
    cases e with
    | normal => exact h
    | exit _ => exact h.elim
    | goto _ => exact h.elim
    | ret => exact h.elim
    | panic _ => exact h.elim
    | outgrown => exact h.elim
theorem XZ {l : List Oper} (h : Fin X L B K) : Fin X L B (wpQ X.P l K .done) := h
theorem Qc {l : List Oper} : Fin X L B (wpQ X.P l K .non) := fun _ _ _ _ => trivial
theorem Qo {l : List Oper} {i : Nat} {r : Oq} (h : Ops X l.toArray (.cons (nth l i) .pure .nil) L B (wpQ X.P l K r)) : Fin X L B (wpQ X.P l K (.p i r)) := h
theorem Fin.qf {l : List Oper} {i : Nat} {r : Oq} (h : Ops X l.toArray (.cons (nth l i) .free .nil) L B (wpQ X.P l K r)) : Fin X L B (wpQ X.P l K (.f i r)) := h
theorem XK {l : List Oper} {i : Nat} {r o : Oq} (h : Ops X l.toArray (.cons (nth l i) .makes .nil) L B (wpQ X.P l K r)) (h2 : Fin X L B (wpQ X.P l K o)) : Fin X L B (wpQ X.P l K (.m i r o)) := fun a ρ w hI => ⟨h a ρ w hI, h2 a ρ w hI⟩
theorem Xj {l : List Oper} {i : Nat} {r o : Oq} (h : Ops X l.toArray (.cons (nth l i) .any .nil) L B (wpQ X.P l K r)) (h2 : Fin X L B (wpQ X.P l K o)) : Fin X L B (wpQ X.P l K (.a i r o)) := fun a ρ w hI => ⟨h a ρ w hI, h2 a ρ w hI⟩
variable {ops : Array Oper} {r : Pl} {k : Kd} {x y z : Operand} {d : Nat} {t t2 t' : TypeId} {pos : String} {af : Array Edge} {g : Option (Nat × Bool)}
theorem Ops.makeX (i m : Nat) {el n bytes : Nat} {zv : Value} {j : Int} (hk : k.mk = true) (hg : gd ops L g = some true) (hx : ev L x = some (.ct (.ex (.int .i64 j)))) (hm : j = (m : Int)) (hT : SlcT X.P t el n bytes zv) (hb : bytes * m ≤ 140737488355328) (hmx : m ≤ 140737488355328) (hN : noN i L = true) (hB : bget B i = none) (hn : Nat.blt d X.n = true)
    (h : ∀ gb, Ops X ops r ((d, .ct (.ex (.slice (some ⟨gb, 0, none⟩) m m))) :: L) ((i, .rowx (.slice (some ⟨gb, 0, none⟩) m m) el n (zinit zv m)) :: B) K) : Ops X ops (.cons ⟨some d, .makeSlice t x x, t', pos, af, g⟩ k r) L B K := fun a ρ w hI => by
  refine wpX_makes k hk ?_
  unfold wpO
  rw [if_pos (gd_spec (o := ⟨some d, _, t', pos, af, g⟩) hI hg)]
  unfold Oper.wp
  obtain ⟨nf, h1, h2, h3, h4⟩ := hT.inf
  obtain ⟨w', h5, h6, h7⟩ := run_make_full (P := X.P) w 0 t el nf zv n hT.und h1 h4 h2 .i64 .i64 m (by rw [h3]; omega) (by simp only [maxLen]; omega) (Nat.zero_le _)
  have hbel : Below w.heap.size w w' := (Below.refl _ _).grown h7 (Nat.le_refl _) (fun _ hk => by cases hk)
  have hrun : (execOp a.eval ⟨some d, .makeSlice t x x, t', pos, af, g⟩).run X.P w = .ok (.value (.slice (some ⟨w.heap.size, 0, none⟩) m m)) w' := by
    show (do pure (Next.value (← Instr.makeSlice t (a.eval x) (a.eval x))) : Sem Next).run X.P w = _
    rw [hI.evx hx, hm]; exact run_v h5
  rw [hrun]
  have hW := hI.new (v := .slice (some ⟨w.heap.size, 0, none⟩) m m) (e := .rowx (.slice (some ⟨w.heap.size, 0, none⟩) m m) el n (zinit zv m)) hN hB hbel (fun g hg => by injection hg with hg; subst hg; exact Nat.le_refl _) (fun S' _ => ⟨rfl, m, _, h6, by rw [zinit_map, ← hT.zs, made_flat]; exact cells_ex _⟩)
  exact ⟨hbel, h w.heap.size _ _ w' (hW.put (s := .ct (.ex _)) (lt_of_blt hn) rfl)⟩
end Go.Own
namespace Go.Proofs.YtdhmbgogmoaofaaGreat
open Go.Own Go.Limbs
attribute [local irreducible] St Ops Go.Own.Fin Ok
theorem goInt : InGo Tryz.prog 164 := InGo.of Tryz.func164 (by kernel_rfl) (by kernel_rfl)
def rnd (a b : Nat) (up : Bool) : Nat := if up = true ∧ a % b ≠ 0 then a / b + 1 else a / b
end Go.Proofs.YtdhmbgogmoaofaaGreat
namespace Go.Proofs.YtdhmbgogmoaofaaGreat
open Go.Own Go.Limbs
attribute [local irreducible] St Ops Go.Own.Fin Ok
def fr0 : Fr := ⟨false, 0, 1⟩
structure Rw where
  cs : List Int
  b : Int
def rw0 : Rw := ⟨[], 0⟩
abbrev rwCs (r : Rw) : List CT := [intsC r.cs, intC r.b]
abbrev rowC (r : Rw) : CT := .fr (aggT (rwCs r))
abbrev rowsC (rs : List Rw) : CT := .fr (sliceT 2 (rs.map rwCs))
theorem map_at {α : Type} (f : α → List CT) (z : α) {xs : List α} {j : Int} (h0 : 0 ≤ j) (h : j < (xs.length : Int)) : (xs.map f)[j.toNat]? = some (f (xs.getD j.toNat z)) := by
  have : j.toNat < xs.length := by omega
  simp [List.getElem?_map, List.getElem?_eq_getElem this, List.getD_eq_getElem?_getD]
theorem fracs_at {fs : List Fr} {j : Int} (h0 : 0 ≤ j) (h : j < (fs.length : Int)) : (fs.map frCs)[j.toNat]? = some (frCs (fs.getD j.toNat fr0)) := map_at frCs fr0 h0 h
theorem rows_at {rs : List Rw} {j : Int} (h0 : 0 ≤ j) (h : j < (rs.length : Int)) : (rs.map rwCs)[j.toNat]? = some (rwCs (rs.getD j.toNat rw0)) := map_at rwCs rw0 h0 h
def tw (m : Int) : Rat := mkRat m 12
def tf (m : Int) : Fr := ofQ (tw m)
abbrev twC (m : Int) : CT := fracC (tf m)
abbrev twsC (ms : List Int) : CT := .fr (sliceT 3 (ms.map fun m => frCs (tf m)))
theorem twsC_eq (ms : List Int) : twsC ms = fracsC (ms.map tf) := by show CT.fr (sliceT 3 _) = CT.fr (sliceT 3 _); rw [List.map_map]; rfl
theorem tf_red (m : Int) : tf m = redF (decide (m < 0)) m.natAbs 12 := by
  unfold tf tw; rw [redF_q _ _ _ (by decide), sg_natAbs]
theorem tf_gcd (m : Int) : ∃ g : Nat, 0 < g ∧ m.natAbs = (tf m).num * g ∧ 12 = (tf m).den * g := by
  rw [tf_red]
  refine ⟨Nat.gcd m.natAbs 12, Nat.gcd_pos_of_pos_right _ (by decide), ?_, ?_⟩
  · exact (Nat.div_mul_cancel (Nat.gcd_dvd_left _ _)).symm
  · exact (Nat.div_mul_cancel (Nat.gcd_dvd_right _ _)).symm
theorem tf_num_le (m : Int) : (tf m).num ≤ m.natAbs := by rw [tf_red]; exact Nat.div_le_self _ _
theorem tf_num_zero (m : Int) : (tf m).num = 0 ↔ m = 0 := by
  obtain ⟨g, h1, h2, _⟩ := tf_gcd m
  constructor
  · intro h; rw [h] at h2; omega
  · intro h; have := tf_num_le m; omega
theorem tf_neg (m : Int) : (tf m).neg = decide (m < 0) := by
  have h : (tf m).neg = (decide (m < 0) && decide ((tf m).num ≠ 0)) := by rw [tf_red]; rfl
  have h2 := tf_num_zero m
  rw [h]
  by_cases hm : m < 0
  · have : (tf m).num ≠ 0 := fun h' => by have := h2.mp h'; omega
    simp [hm, this]
  · simp [hm]
theorem tw_div (n : Int) (d e : Nat) (h : d * e = 12) : mkRat n d = tw (n * e) := by
  unfold tw
  rw [← h, Rat.mkRat_mul_right (by intro h0; subst h0; simp at h)]
def Tb (m : Int) : Prop := m.natAbs < 1180591620717411303424
end Go.Proofs.YtdhmbgogmoaofaaGreat
namespace Go.Proofs.YtdhmbgogmoaofaaGreat
open Go.Own Go.Limbs
attribute [local irreducible] St Ops Go.Own.Fin Ok
def idxI {α : Type} (p : α → Bool) (xs : List α) : Int := if xs.any p then (xs.findIdx p : Nat) else -1
theorem idxI_hit {α : Type} {p : α → Bool} {xs : List α} {z : α} {i : Nat} (h : i < xs.length) (hp : p (xs.getD i z) = true) (hn : ∀ j, j < i → p (xs.getD j z) = false) : idxI p xs = i := by
  have e : ∀ j (hj : j < xs.length), xs.getD j z = xs[j] := fun j hj => by simp [List.getD_eq_getElem?_getD, List.getElem?_eq_getElem hj]
  unfold idxI
  rw [if_pos (List.any_eq_true.mpr ⟨xs[i], List.getElem_mem h, by rw [← e i h]; exact hp⟩)]
  congr 1
  rw [List.findIdx_eq h]
  exact ⟨by rw [← e i h]; exact hp, fun j hj => by rw [← e j (by omega)]; exact hn j hj⟩
theorem idxI_miss {α : Type} {p : α → Bool} {xs : List α} {z : α} (hn : ∀ j, j < xs.length → p (xs.getD j z) = false) : idxI p xs = -1 := by
  have e : ∀ j (hj : j < xs.length), xs.getD j z = xs[j] := fun j hj => by simp [List.getD_eq_getElem?_getD, List.getElem?_eq_getElem hj]
  unfold idxI
  rw [if_neg]
  rw [Bool.not_eq_true, List.any_eq_false]
  intro x hx
  obtain ⟨j, hj, rfl⟩ := List.getElem_of_mem hx
  rw [← e j hj, hn j hj]; decide
theorem idxI_any {α : Type} (p : α → Bool) (xs : List α) : decide (0 ≤ idxI p xs) = xs.any p := by
  unfold idxI; split
  · rename_i h; rw [h]; simp
  · rename_i h; simp at h; rw [show decide ((0 : Int) ≤ -1) = false by decide]; symm; rw [List.any_eq_false]; simpa using h
theorem getD_mem {α : Type} {xs : List α} {z : α} {i : Nat} (h : i < xs.length) : xs.getD i z ∈ xs := by
  simp [List.getD_eq_getElem?_getD, List.getElem?_eq_getElem h]
set_option maxHeartbeats 2000000 in
theorem IndexFunc_ints (xs : List Int) (f : FuncId) (p : Int → Bool) (hgo : InGo Tryz.prog f) (hf : ∀ x ∈ xs, Ok Tryz.prog f [intC x] (boolC (p x))) (hl : xs.length < 4611686018427387904) : Ok Tryz.prog 148 [intsC xs, (.ex (.func (.func f) #[] #[]))] (intC (idxI p xs)) := by
  refine Ok.enter Tryz.func148 rfl _ Tryz.ntmps148 rfl ?_
  intro S w
  (refine Qy (Qx fun K hK => ?_); refine Qv rfl rfl rfl ?_; refine Qj (hK _ _ (Qz (Qy (Qy ?_)))); clear hK K; refine Qx (fun K hK => ?_); refine Qq rfl rfl rfl ?_; refine Q4 rfl rfl (by with_reducible first | exact sNat.und | exact sInts.und) (List.length_map ..) rfl ?_; refine Qq rfl rfl rfl ?_; refine Qj (hK _ _ (Qz (Q2 ?_))); clear hK K)
  refine Ql (α := Nat) (fun i => i ≤ xs.length ∧ ∀ j, j < i → p (xs.getD j 0) = false)
    (fun i => [(0, .ct (intsC xs)), (1, .ct (.ex (.func (.func f) #[] #[]))), (7, .ct (intC xs.length)), (8, .ct (intC i))]) (fun _ => []) (fun i => xs.length - i) 0 ⟨Nat.zero_le _, fun j h => absurd h (Nat.not_lt_zero j)⟩ (by exact QZ rfl ⟨rfl, rfl, rfl, rfl, trivial⟩) ?_
  intro i ⟨hi, hv⟩
  dsimp only
  (refine Qy (Qx fun K hK => ?_); refine Qw ilss rfl rfl rfl rfl ?_; refine Qj (hK _ _ (Qz (Qy ?_))); clear hK K)
  refine Q0 rfl (fun h => ?_) (fun h => ?_)
  · have e2 : (i : Int).toNat = i := Int.toNat_natCast i
    (refine QU (Qz (Qy (Q2 (Qy (Qx fun K hK => ?_))))); refine Qq rfl rfl rfl ?_; refine Qv rfl rfl rfl ?_; refine Qj (hK _ _ (Qz (Qy ?_))); clear hK K; refine Qx (fun K hK => ?_); refine Qq rfl rfl rfl ?_; refine Qq rfl rfl rfl ?_; refine Qq rfl rfl rfl ?_; refine Qf rfl rfl rfl (by with_reducible first | exact sNat | exact sInts) (by omega) (ints_at (by omega) (by omega)) rfl ?_; refine Qm rfl rfl rfl (by with_reducible first | exact lInt | exact lNat | exact lBool | exact lInts) rfl ?_)
    rw [e2]
    skip
    refine Ops.callF hgo rfl (hf _ (getD_mem (by omega))) rfl rfl rfl rfl ?_
    (refine Qj (hK _ _ (Qz ?_)); clear hK K)
    refine X0 rfl (fun h2 => ?_) (fun h2 => ?_)
    · (refine Qy (Qx fun K hK => ?_); refine Qq rfl rfl rfl ?_; refine Qv rfl rfl rfl ?_; refine Qj (hK _ _ (Qz (Q3 (Q9 (QW (QW (Q9 (QW ?_)))))))); clear hK K)
      refine QK [_] rfl (QQ rfl Qu) (by rw [idxI_hit (by omega) h2 hv]; rfl) rfl
    · (refine QU (Qz (Qx fun K hK => ?_)); refine Qw (iadd (by omega) (by omega)) rfl rfl rfl rfl ?_; refine Qq rfl rfl rfl ?_; refine Qj (hK _ _ (Q5 ?_)); clear hK K)
      refine Q8 (i + 1) (by omega) ⟨by omega, ?_⟩ (by exact QZ rfl ⟨rfl, rfl, rfl, by simp only [Int.natCast_add]; rfl, trivial⟩)
      intro j hj
      rcases Nat.lt_or_ge j i with h3 | h3
      · exact hv j h3
      · have : j = i := by omega
        rw [this]; exact h2
  · have hi' : i = xs.length := by omega
    (refine Qe (Qz (Qy (Qx fun K hK => ?_))); refine Qv rfl rfl rfl ?_; refine Qj (hK _ _ (Qz (Q3 ?_))); clear hK K)
    refine QK [_] rfl (QQ rfl Qu) (by rw [idxI_miss (fun j hj => hv j (by omega))]; rfl) rfl
theorem goIndexFunc_ints : InGo Tryz.prog 148 := InGo.of Tryz.func148 (by kernel_rfl) (by kernel_rfl)
theorem ContainsFunc_ints (xs : List Int) (f : FuncId) (p : Int → Bool) (hgo : InGo Tryz.prog f) (hf : ∀ x ∈ xs, Ok Tryz.prog f [intC x] (boolC (p x))) (hl : xs.length < 4611686018427387904) : Ok Tryz.prog 106 [intsC xs, (.ex (.func (.func f) #[] #[]))] (boolC (xs.any p)) := by
  refine Ok.enter Tryz.func106 rfl _ Tryz.ntmps106 rfl ?_
  intro S w
  (refine Qy (Qx fun K hK => ?_); refine Qv rfl rfl rfl ?_; refine Qj (hK _ _ (Qz (Qy ?_))); clear hK K; refine Qx (fun K hK => ?_); refine Qq rfl rfl rfl ?_; refine Qq rfl rfl rfl ?_)
  refine QX goIndexFunc_ints (IndexFunc_ints xs f p hgo hf hl) rfl rfl rfl rfl ?_
  (refine Qw igeq rfl rfl rfl rfl ?_; refine Qv rfl rfl rfl ?_; refine Qj (hK _ _ (Qz (Q3 ?_))); clear hK K)
  refine QK [_] rfl (QQ rfl Qu) (by rw [← idxI_any]; rfl) rfl
theorem goContainsFunc_ints : InGo Tryz.prog 106 := InGo.of Tryz.func106 (by kernel_rfl) (by kernel_rfl)
set_option maxHeartbeats 2000000 in
theorem IndexFunc_fracs (xs : List Fr) (f : FuncId) (p : Fr → Bool) (hgo : InGo Tryz.prog f) (hf : ∀ x ∈ xs, Ok Tryz.prog f [fracC x] (boolC (p x))) (hl : xs.length < 4611686018427387904) : Ok Tryz.prog 118 [fracsC xs, (.ex (.func (.func f) #[] #[]))] (intC (idxI p xs)) := by
  refine Ok.enter Tryz.func118 rfl _ Tryz.ntmps118 rfl ?_
  intro S w
  (refine Qy (Qx fun K hK => ?_); refine Qv rfl rfl rfl ?_; refine Qj (hK _ _ (Qz (Qy (Qy ?_)))); clear hK K; refine Qx (fun K hK => ?_); refine Qq rfl rfl rfl ?_; refine Q4 rfl rfl (by with_reducible first | exact sFracs.und | exact sRows.und) (List.length_map ..) rfl ?_; refine Qq rfl rfl rfl ?_; refine Qj (hK _ _ (Qz (Q2 ?_))); clear hK K)
  refine Ql (α := Nat) (fun i => i ≤ xs.length ∧ ∀ j, j < i → p (xs.getD j fr0) = false)
    (fun i => [(0, .ct (fracsC xs)), (1, .ct (.ex (.func (.func f) #[] #[]))), (7, .ct (intC xs.length)), (8, .ct (intC i))]) (fun _ => []) (fun i => xs.length - i) 0 ⟨Nat.zero_le _, fun j h => absurd h (Nat.not_lt_zero j)⟩ (by exact QZ rfl ⟨rfl, rfl, rfl, rfl, trivial⟩) ?_
  intro i ⟨hi, hv⟩
  dsimp only
  (refine Qy (Qx fun K hK => ?_); refine Qw ilss rfl rfl rfl rfl ?_; refine Qj (hK _ _ (Qz (Qy ?_))); clear hK K)
  refine Q0 rfl (fun h => ?_) (fun h => ?_)
  · have e2 : (i : Int).toNat = i := Int.toNat_natCast i
    (refine QU (Qz (Qy (Q2 (Qy (Qx fun K hK => ?_))))); refine Qq rfl rfl rfl ?_; refine Qv rfl rfl rfl ?_; refine Qj (hK _ _ (Qz (Qy ?_))); clear hK K; refine Qx (fun K hK => ?_); refine Qq rfl rfl rfl ?_; refine Qq rfl rfl rfl ?_; refine Qq rfl rfl rfl ?_; refine Qf rfl rfl rfl (by with_reducible exact sFracs) (by omega) (fracs_at (by omega) (by omega)) rfl ?_; refine X8 (n := 3) rfl rfl rfl (by with_reducible exact lFrac) rfl rfl ?_)
    rw [e2]
    skip
    refine Ops.callF hgo rfl (hf _ (getD_mem (by omega))) rfl rfl rfl rfl ?_
    (refine Qj (hK _ _ (Qz ?_)); clear hK K)
    refine X0 rfl (fun h2 => ?_) (fun h2 => ?_)
    · (refine Qy (Qx fun K hK => ?_); refine Qq rfl rfl rfl ?_; refine Qv rfl rfl rfl ?_; refine Qj (hK _ _ (Qz (Q3 (Q9 (QW (QW (Q9 (QW ?_)))))))); clear hK K)
      refine QK [_] rfl (QQ rfl Qu) (by rw [idxI_hit (by omega) h2 hv]; rfl) rfl
    · (refine QU (Qz (Qx fun K hK => ?_)); refine Qw (iadd (by omega) (by omega)) rfl rfl rfl rfl ?_; refine Qq rfl rfl rfl ?_; refine Qj (hK _ _ (Q5 ?_)); clear hK K)
      refine Q8 (i + 1) (by omega) ⟨by omega, ?_⟩ (by exact QZ rfl ⟨rfl, rfl, rfl, by simp only [Int.natCast_add]; rfl, trivial⟩)
      intro j hj
      rcases Nat.lt_or_ge j i with h3 | h3
      · exact hv j h3
      · have : j = i := by omega
        rw [this]; exact h2
  · have hi' : i = xs.length := by omega
    (refine Qe (Qz (Qy (Qx fun K hK => ?_))); refine Qv rfl rfl rfl ?_; refine Qj (hK _ _ (Qz (Q3 ?_))); clear hK K)
    refine QK [_] rfl (QQ rfl Qu) (by rw [idxI_miss (fun j hj => hv j (by omega))]; rfl) rfl
theorem goIndexFunc_fracs : InGo Tryz.prog 118 := InGo.of Tryz.func118 (by kernel_rfl) (by kernel_rfl)
theorem ContainsFunc_fracs (xs : List Fr) (f : FuncId) (p : Fr → Bool) (hgo : InGo Tryz.prog f) (hf : ∀ x ∈ xs, Ok Tryz.prog f [fracC x] (boolC (p x))) (hl : xs.length < 4611686018427387904) : Ok Tryz.prog 62 [fracsC xs, (.ex (.func (.func f) #[] #[]))] (boolC (xs.any p)) := by
  refine Ok.enter Tryz.func62 rfl _ Tryz.ntmps62 rfl ?_
  intro S w
  (refine Qy (Qx fun K hK => ?_); refine Qv rfl rfl rfl ?_; refine Qj (hK _ _ (Qz (Qy ?_))); clear hK K; refine Qx (fun K hK => ?_); refine Qq rfl rfl rfl ?_; refine Qq rfl rfl rfl ?_)
  refine QX goIndexFunc_fracs (IndexFunc_fracs xs f p hgo hf hl) rfl rfl rfl rfl ?_
  (refine Qw igeq rfl rfl rfl rfl ?_; refine Qv rfl rfl rfl ?_; refine Qj (hK _ _ (Qz (Q3 ?_))); clear hK K)
  refine QK [_] rfl (QQ rfl Qu) (by rw [← idxI_any]; rfl) rfl
theorem goContainsFunc_fracs : InGo Tryz.prog 62 := InGo.of Tryz.func62 (by kernel_rfl) (by kernel_rfl)
set_option maxHeartbeats 2000000 in
theorem IndexFunc_rows (xs : List Rw) (f : FuncId) (caps : List CT) (p : Rw → Bool) (hgo : InGo Tryz.prog f) (hf : ∀ x ∈ xs, Ok Tryz.prog f ([rowC x] ++ caps) (boolC (p x))) (hl : xs.length < 4611686018427387904) : Ok Tryz.prog 139 [rowsC xs, (.fr (closT f caps))] (intC (idxI p xs)) := by
  refine Ok.enter Tryz.func139 rfl _ Tryz.ntmps139 rfl ?_
  intro S w
  (refine Qy (Qx fun K hK => ?_); refine Qv rfl rfl rfl ?_; refine Qj (hK _ _ (Qz (Qy (Qy ?_)))); clear hK K; refine Qx (fun K hK => ?_); refine Qq rfl rfl rfl ?_; refine Q4 rfl rfl (by with_reducible first | exact sFracs.und | exact sRows.und) (List.length_map ..) rfl ?_; refine Qq rfl rfl rfl ?_; refine Qj (hK _ _ (Qz (Q2 ?_))); clear hK K)
  refine Ql (α := Nat) (fun i => i ≤ xs.length ∧ ∀ j, j < i → p (xs.getD j rw0) = false)
    (fun i => [(0, .ct (rowsC xs)), (1, .ct (.fr (closT f caps))), (7, .ct (intC xs.length)), (8, .ct (intC i))]) (fun _ => []) (fun i => xs.length - i) 0 ⟨Nat.zero_le _, fun j h => absurd h (Nat.not_lt_zero j)⟩ (by exact QZ rfl ⟨rfl, rfl, rfl, rfl, trivial⟩) ?_
  intro i ⟨hi, hv⟩
  dsimp only
  (refine Qy (Qx fun K hK => ?_); refine Qw ilss rfl rfl rfl rfl ?_; refine Qj (hK _ _ (Qz (Qy ?_))); clear hK K)
  refine Q0 rfl (fun h => ?_) (fun h => ?_)
  · have e2 : (i : Int).toNat = i := Int.toNat_natCast i
    (refine QU (Qz (Qy (Q2 (Qy (Qx fun K hK => ?_))))); refine Qq rfl rfl rfl ?_; refine Qv rfl rfl rfl ?_; refine Qj (hK _ _ (Qz (Qy ?_))); clear hK K; refine Qx (fun K hK => ?_); refine Qq rfl rfl rfl ?_; refine Qq rfl rfl rfl ?_; refine Qq rfl rfl rfl ?_; refine Qf rfl rfl rfl (by with_reducible exact sRows) (by omega) (rows_at (by omega) (by omega)) rfl ?_; refine X8 (n := 2) rfl rfl rfl (by with_reducible exact lRow) rfl rfl ?_)
    rw [e2]
    skip
    refine Ops.callC hgo rfl (hf _ (getD_mem (by omega))) rfl rfl rfl rfl ?_
    (refine Qj (hK _ _ (Qz ?_)); clear hK K)
    refine X0 rfl (fun h2 => ?_) (fun h2 => ?_)
    · (refine Qy (Qx fun K hK => ?_); refine Qq rfl rfl rfl ?_; refine Qv rfl rfl rfl ?_; refine Qj (hK _ _ (Qz (Q3 (Q9 (QW (QW (Q9 (QW ?_)))))))); clear hK K)
      refine QK [_] rfl (QQ rfl Qu) (by rw [idxI_hit (by omega) h2 hv]; rfl) rfl
    · (refine QU (Qz (Qx fun K hK => ?_)); refine Qw (iadd (by omega) (by omega)) rfl rfl rfl rfl ?_; refine Qq rfl rfl rfl ?_; refine Qj (hK _ _ (Q5 ?_)); clear hK K)
      refine Q8 (i + 1) (by omega) ⟨by omega, ?_⟩ (by exact QZ rfl ⟨rfl, rfl, rfl, by simp only [Int.natCast_add]; rfl, trivial⟩)
      intro j hj
      rcases Nat.lt_or_ge j i with h3 | h3
      · exact hv j h3
      · have : j = i := by omega
        rw [this]; exact h2
  · have hi' : i = xs.length := by omega
    (refine Qe (Qz (Qy (Qx fun K hK => ?_))); refine Qv rfl rfl rfl ?_; refine Qj (hK _ _ (Qz (Q3 ?_))); clear hK K)
    refine QK [_] rfl (QQ rfl Qu) (by rw [idxI_miss (fun j hj => hv j (by omega))]; rfl) rfl
theorem goIndexFunc_rows : InGo Tryz.prog 139 := InGo.of Tryz.func139 (by kernel_rfl) (by kernel_rfl)
theorem ContainsFunc_rows (xs : List Rw) (f : FuncId) (caps : List CT) (p : Rw → Bool) (hgo : InGo Tryz.prog f) (hf : ∀ x ∈ xs, Ok Tryz.prog f ([rowC x] ++ caps) (boolC (p x))) (hl : xs.length < 4611686018427387904) : Ok Tryz.prog 89 [rowsC xs, (.fr (closT f caps))] (boolC (xs.any p)) := by
  refine Ok.enter Tryz.func89 rfl _ Tryz.ntmps89 rfl ?_
  intro S w
  (refine Qy (Qx fun K hK => ?_); refine Qv rfl rfl rfl ?_; refine Qj (hK _ _ (Qz (Qy ?_))); clear hK K; refine Qx (fun K hK => ?_); refine Qq rfl rfl rfl ?_; refine Qq rfl rfl rfl ?_)
  refine QX goIndexFunc_rows (IndexFunc_rows xs f caps p hgo hf hl) rfl rfl rfl rfl ?_
  (refine Qw igeq rfl rfl rfl rfl ?_; refine Qv rfl rfl rfl ?_; refine Qj (hK _ _ (Qz (Q3 ?_))); clear hK K)
  refine QK [_] rfl (QQ rfl Qu) (by rw [← idxI_any]; rfl) rfl
theorem goContainsFunc_rows : InGo Tryz.prog 89 := InGo.of Tryz.func89 (by kernel_rfl) (by kernel_rfl)
def badC (x : Int) : Bool := decide (x < -1048576) || decide (1048576 < x)
theorem validCoeffs1_ok (x : Int) : Ok Tryz.prog 121 [intC x] (boolC (badC x)) := by
  refine Ok.enter Tryz.func121 rfl _ Tryz.ntmps121 rfl ?_
  intro S w
  (refine Qy (Qx fun K hK => ?_); refine Qv rfl rfl rfl ?_; refine Qj (hK _ _ (Qz (Qy ?_))); clear hK K; refine Qx (fun K hK => ?_); refine Qq rfl rfl rfl ?_; refine Qw ilss rfl rfl rfl rfl ?_; refine Qq rfl rfl rfl ?_)
  refine Qg 5 rfl (fun h => ?_) (fun h => ?_)
  · (refine Qk rfl rfl rfl ?_; refine Qk rfl rfl rfl ?_; refine Q7 rfl rfl rfl rfl ?_; refine Qv rfl rfl rfl ?_; refine Qj (hK _ _ (Qz (Q3 ?_))); clear hK K)
    refine QK [_] rfl (QQ rfl Qu) (by unfold badC; rw [decide_eq_true h]; rfl) rfl
  · (refine Qq rfl rfl rfl ?_; refine Qw igtr rfl rfl rfl rfl ?_; refine Q6 rfl rfl rfl rfl ?_; refine Qv rfl rfl rfl ?_; refine Qj (hK _ _ (Qz (Q3 ?_))); clear hK K)
    refine QK [_] rfl (QQ rfl Qu) (by unfold badC; rw [decide_eq_false h]; rfl) rfl
theorem govalidCoeffs1 : InGo Tryz.prog 121 := InGo.of Tryz.func121 (by kernel_rfl) (by kernel_rfl)
def okCoeffs (n : Int) (xs : List Int) : Bool := decide ((xs.length : Int) ≤ n) && !xs.any badC
theorem validCoeffs_ok (n : Int) (xs : List Int) (hl : xs.length < 4611686018427387904) : Ok Tryz.prog 67 [intC n, intsC xs] (boolC (okCoeffs n xs)) := by
  refine Ok.enter Tryz.func67 rfl _ Tryz.ntmps67 rfl ?_
  intro S w
  (refine Qy (Qx fun K hK => ?_); refine Qv rfl rfl rfl ?_; refine Qj (hK _ _ (Qz (Qy ?_))); clear hK K; refine Qx (fun K hK => ?_); refine Qq rfl rfl rfl ?_; refine Q4 rfl rfl (by with_reducible first | exact sNat.und | exact sInts.und) (List.length_map ..) rfl ?_; refine Qq rfl rfl rfl ?_; refine Qw ileq rfl rfl rfl rfl ?_; refine Qq rfl rfl rfl ?_)
  refine Qg 9 rfl (fun h => ?_) (fun h => ?_)
  · (refine Qq rfl rfl rfl ?_)
    refine QX goContainsFunc_ints (ContainsFunc_ints xs _ badC govalidCoeffs1 (fun x _ => validCoeffs1_ok x) hl) rfl rfl rfl rfl ?_
    (refine Qr rfl rfl rfl ?_; refine Q7 rfl rfl rfl rfl ?_; refine Qv rfl rfl rfl ?_; refine Qj (hK _ _ (Qz (Q3 ?_))); clear hK K)
    refine QK [_] rfl (QQ rfl Qu) (by unfold okCoeffs; rw [decide_eq_true h]; rfl) rfl
  · (refine Qk rfl rfl rfl ?_; refine Qk rfl rfl rfl ?_; refine Qk rfl rfl rfl ?_; refine Q6 rfl rfl rfl rfl ?_; refine Qv rfl rfl rfl ?_; refine Qj (hK _ _ (Qz (Q3 ?_))); clear hK K)
    refine QK [_] rfl (QQ rfl Qu) (by unfold okCoeffs; rw [decide_eq_false h]; rfl) rfl
theorem govalidCoeffs : InGo Tryz.prog 67 := InGo.of Tryz.func67 (by kernel_rfl) (by kernel_rfl)
end Go.Proofs.YtdhmbgogmoaofaaGreat
namespace Go.Own
variable {X : Ctx} {L : AL} {B : BL} {ops : Array Oper} {K : Act → World → Prop} {r : Pl} {k : Kd}
  {x y z : Operand} {d : Nat} {t t2 t' : TypeId} {pos : String} {af : Array Edge} {g : Option (Nat × Bool)}
theorem Xy {l : Pl} (dd i m : Nat) {el n : Nat} {cs : List CT} (hd : look L dd = some (.own i)) (hi : bget B i = some (.row el n cs)) (hl : cs.length = m * n) (hm : 0 < m) (hp : 0 < n)
    (h : ∀ gb c, m ≤ c → c ≤ maxLen → Ops X ops l ((dd, .ct (.ex (.slice (some ⟨gb, 0, none⟩) m c))) :: L) (bset B i (.rowx (.slice (some ⟨gb, 0, none⟩) m c) el n cs)) K) : Ops X ops l L B K := Fin.nameS dd i m hd hi hl hm hp h
theorem Ops.weakX {l : Pl} (i : Nat) {v : Value} {el n : Nat} {cs : List CT} (ds : List CT) (hi : bget B i = some (.rowx v el n cs)) (hw : argW cs ds) (h : Ops X ops l L (bset B i (.rowx v el n ds)) K) : Ops X ops l L B K := fun a ρ w hI => by
  refine h a ρ w (hI.retype hi ?_ rfl)
  obtain ⟨h1, n', vs, h2, h3⟩ := (hI.ent i _ hi).1
  exact ⟨h1, n', vs, h2, hw.cells h3⟩
theorem Xa {L' : AL} {B' : BL} (hB : ∀ j, bget B' j = bget B j) (h : subL L L') : Entails X L B L' B' := fun _ ρ _ hI => ⟨ρ, (hI.subL h).bext hB⟩
theorem bset_cons_eq (B : BL) (i : Nat) (e e' : Ent) : bset ((i, e) :: B) i e' = (i, e') :: B := by simp [bset]
end Go.Own
namespace Go.Proofs.YtdhmbgogmoaofaaGreat
open Go.Own Go.Limbs
def rng (a n : Nat) : List Int := (List.range n).map (fun i => ((a + i : Nat) : Int))
theorem rng_len (a n : Nat) : (rng a n).length = n := by simp [rng]
theorem rng_succ (a n : Nat) : rng a (n + 1) = rng a n ++ [((a + n : Nat) : Int)] := by simp [rng, List.range_succ]
theorem ints_app (xs ys : List Int) : ints (xs ++ ys) = ints xs ++ ints ys := by simp [ints]
def lnOf (n : Nat) (cs : List Int) (b : Int) : List Int := (List.range n).map (fun j => cs.getD j 0) ++ [b]
def lnP (n : Nat) (cs : List Int) (q : Nat) : List Int := (List.range (n + 1)).map (fun j => if j < q then cs.getD j 0 else 0)
theorem lnP_len (n : Nat) (cs : List Int) (q : Nat) : (lnP n cs q).length = n + 1 := by simp [lnP]
theorem lnP_zero (n : Nat) (cs : List Int) : lnP n cs 0 = List.replicate (n + 1) 0 := by
  unfold lnP
  rw [show (fun j => if j < 0 then cs.getD j 0 else 0) = fun _ => (0 : Int) by funext j; rw [if_neg (by omega)], List.map_const', List.length_range]
theorem lnP_set (n : Nat) (cs : List Int) (q : Nat) (h : q < n + 1) : (lnP n cs q).set q (cs.getD q 0) = lnP n cs (q + 1) := by
  unfold lnP
  refine range_set _ _ _ q _ h (fun j hj => ?_)
  by_cases e : j = q
  · subst e; rw [if_pos rfl, if_pos (by omega)]
  · rw [if_neg e]
    by_cases h2 : j < q
    · rw [if_pos h2, if_pos (by omega)]
    · rw [if_neg h2, if_neg (by omega)]
theorem lnP_done (n : Nat) (cs : List Int) (b : Int) (h : cs.length ≤ n) : (lnP n cs cs.length).set n b = lnOf n cs b := by
  unfold lnP lnOf
  have e : (List.range (n + 1)).map (fun j => if j < cs.length then cs.getD j 0 else 0) = (List.range n).map (fun j => cs.getD j 0) ++ [cs.getD n 0] := by
    rw [List.range_succ, List.map_append]
    congr 1
    · apply List.map_congr_left
      intro j _
      split
      · rfl
      · rw [getD_ge (by omega)]
    · rw [List.map_singleton, if_neg (by omega), getD_ge h]
  rw [e, List.set_append_right _ _ (by simp)]
  simp
theorem whs_zero (m : Nat) : argW (zinit (.agg #[.bool false, .slice none 0 0]) m) (whs (List.replicate m 0)) := by
  induction m with
  | zero => exact trivial
  | succ m ih =>
    have e1 : zinit (.agg #[.bool false, .slice none 0 0]) (m + 1) = CT.ex (.bool false) :: CT.ex (.slice none 0 0) :: zinit (.agg #[.bool false, .slice none 0 0]) m := by unfold zinit; rw [List.replicate_succ]; rfl
    have e2 : whs (List.replicate (m + 1) 0) = boolC false :: intsC [] :: whs (List.replicate m 0) := by
      rw [List.replicate_succ]
      show boolC (decide ((0 : Int) < 0)) :: natC 0 :: whs (List.replicate m 0) = _
      rw [natC_zero]; rfl
    rw [e1, e2]
    exact ⟨w_same, w_nil, ih⟩
theorem lines_snoc : ∀ (k : Nat) (hl : List Value) (zs : List (List Int)) (h : Value) (y : List Int), hl.length = zs.length → ∀ j, bget (linesB k (hl ++ [h]) (zs ++ [y])) j = bget ((hl.length + k, .rowx h 94 2 (whs y)) :: linesB k hl zs) j
  | k, [], [], h, y, _, j => by simp [linesB]
  | k, a :: hl, z :: zs, h, y, he, j => by
    have ih := lines_snoc (k + 1) hl zs h y (by simpa using he) j
    have e : linesB k ((a :: hl) ++ [h]) ((z :: zs) ++ [y]) = (k, .rowx a 94 2 (whs z)) :: linesB (k + 1) (hl ++ [h]) (zs ++ [y]) := rfl
    rw [e]
    by_cases h1 : k = j
    · subst h1
      rw [bget_cons_eq, bget_cons_ne _ _ (by simp), linesB, bget_cons_eq]
    · rw [bget_cons_ne _ _ h1, ih]
      by_cases h2 : hl.length + (k + 1) = j
      · subst h2
        rw [bget_cons_eq, show (a :: hl).length + k = hl.length + (k + 1) by simp; omega, bget_cons_eq]
      · rw [bget_cons_ne _ _ h2, bget_cons_ne _ _ (by simp; omega), linesB, bget_cons_ne _ _ h1]
  | _, [], _ :: _, _, _, he, _ => by simp at he
  | _, _ :: _, [], _, _, he, _ => by simp at he
end Go.Proofs.YtdhmbgogmoaofaaGreat
namespace Go.Proofs.YtdhmbgogmoaofaaGreat
open Go.Own Go.Limbs
attribute [local irreducible] St Ops Go.Own.Fin Ok OkM
def IsH (m : Nat) (v : Value) : Prop := (m = 0 ∧ v = .slice none 0 0) ∨ (0 < m ∧ ∃ gb c, m ≤ c ∧ c ≤ maxLen ∧ v = .slice (some ⟨gb, 0, none⟩) m c)
theorem IsH.one {m : Nat} {v : Value} (h : IsH m v) : v.oneCell' = true := by
  rcases h with ⟨_, rfl⟩ | ⟨_, gb, c, _, _, rfl⟩ <;> rfl
def Okc (xs : List Int) : Prop := ∀ x ∈ xs, -1152921504606846976 ≤ x ∧ x ≤ 1152921504606846976
theorem Okc.get {xs : List Int} (h : Okc xs) (i : Nat) : -1152921504606846976 ≤ xs.getD i 0 ∧ xs.getD i 0 ≤ 1152921504606846976 := by
  rw [List.getD_eq_getElem?_getD]
  cases e : xs[i]? with
  | none => decide
  | some x => exact h x (List.mem_of_getElem? e)
structure OkRw (n : Nat) (r : Rw) : Prop where
  len : r.cs.length ≤ n
  cs : Okc r.cs
  b1 : -1152921504606846976 ≤ r.b
  b2 : r.b ≤ 1152921504606846976
structure Bgn (n : Nat) (rs : List Rw) (c : List Int) (T : Tv) : Prop where
  rows : T.rows = (rs.map fun r => lnOf n r.cs r.b) ++ [lnOf n (c.map fun x => -x) 0]
  bas : T.bas = rng n rs.length
  col : T.col = rng 0 n
  den : T.den = 1
  hl : T.hl.length = rs.length + 1
  lines : ∀ h ∈ T.hl, ∃ gb, h = .slice (some ⟨gb, 0, none⟩) (n + 1) (n + 1)
  hR : IsH (rs.length + 1) T.hR
  hB : IsH rs.length T.hB
  hC : IsH n T.hC
abbrev tb0 (hR hB hC : Value) : List CT := [.ex hR, .ex hB, .ex hC, boolC (decide ((1 : Int) < 0)), natC (1 : Int).natAbs]
theorem start_B {e0 e1 e2 e3 : Ent} : ∀ j, bget ((0, e0) :: (1, e1) :: (2, e2) :: (3, e3) :: linesB 10 [] ([].map fun r : Rw => lnOf 0 r.cs r.b)) j = bget [(3, e3), (2, e2), (1, e1), (0, e0)] j := fun j => by
  match j with
  | 0 => rfl
  | 1 => rfl
  | 2 => rfl
  | 3 => rfl
  | j + 4 => rfl
theorem step_B {e4 e0 e1 e2 e3 : Ent} {hl : List Value} {zs : List (List Int)} {h : Value} {y : List Int} (he : hl.length = zs.length) : ∀ j, bget ((0, e0) :: (1, e1) :: (2, e2) :: (3, e3) :: linesB 10 (hl ++ [h]) (zs ++ [y])) j = bget (bdel ((hl.length + 10, .rowx h 94 2 (whs y)) :: (4, e4) :: (0, e0) :: (1, e1) :: (2, e2) :: (3, e3) :: linesB 10 hl zs) 4) j := fun j => by
  by_cases h4 : j = 4
  · subst h4; rw [bget_bdel_eq]; exact lines_lt 10 _ _ 4 (by decide)
  · rw [bget_bdel_ne _ h4]
    match j, h4 with
    | 0, _ => exact (bget_cons_ne ((4, e4) :: (0, e0) :: (1, e1) :: (2, e2) :: (3, e3) :: linesB 10 hl zs) (.rowx h 94 2 (whs y)) (show hl.length + 10 ≠ 0 by omega)).symm
    | 1, _ => exact (bget_cons_ne ((4, e4) :: (0, e0) :: (1, e1) :: (2, e2) :: (3, e3) :: linesB 10 hl zs) (.rowx h 94 2 (whs y)) (show hl.length + 10 ≠ 1 by omega)).symm
    | 2, _ => exact (bget_cons_ne ((4, e4) :: (0, e0) :: (1, e1) :: (2, e2) :: (3, e3) :: linesB 10 hl zs) (.rowx h 94 2 (whs y)) (show hl.length + 10 ≠ 2 by omega)).symm
    | 3, _ => exact (bget_cons_ne ((4, e4) :: (0, e0) :: (1, e1) :: (2, e2) :: (3, e3) :: linesB 10 hl zs) (.rowx h 94 2 (whs y)) (show hl.length + 10 ≠ 3 by omega)).symm
    | j + 5, _ =>
      show bget (linesB 10 (hl ++ [h]) (zs ++ [y])) (j + 5) = _
      rw [lines_snoc 10 hl zs h y he]
      by_cases h5 : hl.length + 10 = j + 5
      · rw [h5, bget_cons_eq, bget_cons_eq]
      · rw [bget_cons_ne _ _ h5, bget_cons_ne _ _ h5]; rfl
theorem step_B2 {e0 e1 e2 e3 : Ent} {hl : List Value} {zs : List (List Int)} {h : Value} {y : List Int} (he : hl.length = zs.length) : ∀ j, bget ((0, e0) :: (1, e1) :: (2, e2) :: (3, e3) :: linesB 10 (hl ++ [h]) (zs ++ [y])) j = bget ((hl.length + 10, .rowx h 94 2 (whs y)) :: (0, e0) :: (1, e1) :: (2, e2) :: (3, e3) :: linesB 10 hl zs) j := fun j => by
  match j with
  | 0 => exact (bget_cons_ne ((0, e0) :: (1, e1) :: (2, e2) :: (3, e3) :: linesB 10 hl zs) (.rowx h 94 2 (whs y)) (show hl.length + 10 ≠ 0 by omega)).symm
  | 1 => exact (bget_cons_ne ((0, e0) :: (1, e1) :: (2, e2) :: (3, e3) :: linesB 10 hl zs) (.rowx h 94 2 (whs y)) (show hl.length + 10 ≠ 1 by omega)).symm
  | 2 => exact (bget_cons_ne ((0, e0) :: (1, e1) :: (2, e2) :: (3, e3) :: linesB 10 hl zs) (.rowx h 94 2 (whs y)) (show hl.length + 10 ≠ 2 by omega)).symm
  | 3 => exact (bget_cons_ne ((0, e0) :: (1, e1) :: (2, e2) :: (3, e3) :: linesB 10 hl zs) (.rowx h 94 2 (whs y)) (show hl.length + 10 ≠ 3 by omega)).symm
  | j + 4 =>
    show bget (linesB 10 (hl ++ [h]) (zs ++ [y])) (j + 4) = _
    rw [lines_snoc 10 hl zs h y he]
    by_cases h5 : hl.length + 10 = j + 4
    · rw [h5, bget_cons_eq, bget_cons_eq]
    · rw [bget_cons_ne _ _ h5, bget_cons_ne _ _ h5]; rfl
theorem lnP_all (n : Nat) (cs : List Int) (h : cs.length ≤ n) : lnP n cs cs.length = lnOf n cs 0 := by
  have := lnP_done n cs 0 h
  rw [← this]
  unfold lnP
  symm
  refine range_set _ _ _ n _ (by omega) (fun j hj => ?_)
  by_cases e : j = n
  · subst e; rw [if_pos rfl, if_neg (by omega)]
  · rw [if_neg e]
theorem gobegin : InGo Tryz.prog 68 := InGo.of Tryz.func68 (by kernel_rfl) (by kernel_rfl)
set_option maxHeartbeats 32000000 in
theorem begin_ok (n : Nat) (rs : List Rw) (c : List Int) (hn : n ≤ 50) (hm : rs.length ≤ 90) (hr : ∀ r ∈ rs, OkRw n r) (hc : Okc c) (hcl : c.length ≤ n) : OkM Tryz.prog 68 [.ct (intC n), .ct (rowsC rs), .ct (intsC c)] [] [] (Bgn n rs c) (fun _ => .own 0) (fun T => tabB T) := by
  have hof1 := of_ok 1 (by decide) (by decide)
  refine OkM.enter Tryz.func68 rfl _ Tryz.ntmps68 rfl (fun i hi => by cases hi) ?_
  intro S w ρ0 hbor
  (refine Qy (Qx fun K hK => ?_); refine Qv rfl rfl rfl ?_; refine Qj (hK _ _ (Qz (Qy ?_))); clear hK K; refine Qx (fun K hK => ?_))
  refine QX goof hof1 rfl rfl rfl rfl ?_
  refine Xz rfl (by with_reducible exact bTab) rfl (.agg rfl rfl rfl rfl .nil) rfl ?_
  refine Qt 0 rfl rfl rfl rfl rfl rfl rfl ?_
  (refine Qv rfl rfl rfl ?_; refine Qj (hK _ _ (Qz (Qy (Qy ?_)))); clear hK K; refine Qx (fun K hK => ?_); refine Qq rfl rfl rfl ?_; refine Qq rfl rfl rfl ?_; refine Qj (hK _ _ (Qz (Q2 ?_))); clear hK K)
  refine St.nilX 1 95 1 rfl rfl ?_
  refine St.nilX 2 3 1 rfl rfl ?_
  refine St.nilX 3 3 1 rfl rfl ?_
  refine Ql (α := Nat × Value) (fun x => x.1 ≤ n ∧ IsH x.1 x.2)
    (fun x => [(0, .ct (intC n)), (1, .ct (rowsC rs)), (2, .ct (intsC c)), (7, .own 0), (20, .ct (intC n)), (21, .ct (intC x.1))])
    (fun x => [(3, .rowx x.2 3 1 (ints (rng 0 x.1))), (2, .rowx (.slice none 0 0) 3 1 []), (1, .rowx (.slice none 0 0) 95 1 []), (0, .box 98 (tb0 (.slice none 0 0) (.slice none 0 0) x.2))])
    (fun x => n - x.1) (0, .slice none 0 0) ⟨Nat.zero_le _, .inl ⟨rfl, rfl⟩⟩ (by exact QZ rfl ⟨rfl, rfl, rfl, rfl, rfl, rfl, trivial⟩) ?_
  rintro ⟨j, hC⟩ ⟨hj, hH⟩
  dsimp only at hj hH ⊢
  have hone := hH.one
  (refine Qy (Qx fun K hK => ?_); refine Qw ilss rfl rfl rfl rfl ?_; refine Qj (hK _ _ (Qz (Qy ?_))); clear hK K)
  refine Q0 rfl (fun h => ?_) (fun h => ?_)
  · (refine QU (Qz (Qy (Q2 (Qy (Qx fun K hK => ?_))))); refine Qq rfl rfl rfl ?_; refine Qv rfl rfl rfl ?_; refine Qj (hK _ _ (Qz ?_)); clear hK K; refine Qx (fun K hK => ?_); refine Qq rfl rfl rfl ?_; refine Qq rfl rfl rfl ?_; refine Q1 rfl rfl rfl rfl ?_; refine QV rfl rfl rfl (by with_reducible first | exact fW0 | exact fW1 | exact fT0 | exact fT1 | exact fT2 | exact fT3 | exact fR0 | exact fR1) rfl ?_; refine QJ rfl rfl rfl rfl rfl (by with_reducible first | exact lInt | exact lNat | exact lBool | exact lInts | exact lMat | exact lWhs) rfl ?_; refine Qq rfl rfl rfl ?_)
    refine Xx rfl rfl (by with_reducible exact sInts) rfl rfl rfl ?_
    refine XQ 28 3 rfl rfl ?_
    refine Qh j (ints (rng 0 (j + 1))) rfl rfl rfl rfl (by with_reducible exact sInts) (by simp [rng_len]) rfl (by omega) (by omega) (by rw [rng_succ, ints_app, Nat.zero_add]; rfl) rfl ?_
    refine Xy 31 3 (j + 1) rfl rfl (by simp [rng_len]) (by omega) (by decide) (fun gb cc hc1 hc2 => ?_)
    (refine Q1 rfl rfl rfl rfl ?_; refine QV rfl rfl rfl (by with_reducible first | exact fW0 | exact fW1 | exact fT0 | exact fT1 | exact fT2 | exact fT3 | exact fR0 | exact fR1) rfl ?_; refine Qn rfl rfl rfl rfl rfl (by with_reducible first | exact zInt | exact zInts | exact zMat | exact zBoolW) (Nat.le_of_ble_eq_true rfl) ?_; refine Qj (hK _ _ (Qz ?_)); clear hK K; refine Qx (fun K hK => ?_); refine Qw (iadd (by omega) (by omega)) rfl rfl rfl rfl ?_; refine Qq rfl rfl rfl ?_; refine Qj (hK _ _ (Q5 ?_)); clear hK K)
    refine Q8 (j + 1, _) (by dsimp only; omega) ⟨by dsimp only; omega, .inr ⟨by dsimp only; omega, gb, cc, hc1, hc2, rfl⟩⟩ (by exact QZ rfl ⟨rfl, rfl, rfl, rfl, rfl, by simp only [Int.natCast_add]; rfl, trivial⟩)
  have hjn : j = n := by omega
  subst hjn
  (refine Qe (Qz (Qy (Qy (Qx fun K hK => ?_)))); refine Qq rfl rfl rfl ?_; refine Q4 rfl rfl (by with_reducible first | exact sNat.und | exact sInts.und | exact sRows.und) (List.length_map ..) rfl ?_; refine Qq rfl rfl rfl ?_; refine Qj (hK _ _ (Qz (Q2 ?_))); clear hK K)
  refine Ql (α := Value × Value × List Value) (fun x => x.2.2.length ≤ rs.length ∧ IsH x.2.2.length x.1 ∧ IsH x.2.2.length x.2.1 ∧ ∀ h ∈ x.2.2, ∃ gb, h = .slice (some ⟨gb, 0, none⟩) (j + 1) (j + 1))
    (fun x => [(0, .ct (intC j)), (1, .ct (rowsC rs)), (2, .ct (intsC c)), (7, .own 0), (35, .ct (rowsC rs)), (36, .ct (intC rs.length)), (37, .ct (intC x.2.2.length))])
    (fun x => (0, .box 98 (tb0 x.1 x.2.1 hC)) :: (1, .rowx x.1 95 1 (x.2.2.map CT.ex)) :: (2, .rowx x.2.1 3 1 (ints (rng j x.2.2.length))) :: (3, .rowx hC 3 1 (ints (rng 0 j))) :: linesB 10 x.2.2 ((rs.take x.2.2.length).map fun r => lnOf j r.cs r.b))
    (fun x => rs.length - x.2.2.length) (.slice none 0 0, .slice none 0 0, []) ⟨Nat.zero_le _, .inl ⟨rfl, rfl⟩, .inl ⟨rfl, rfl⟩, fun h hh => by cases hh⟩ (by exact Xa start_B ⟨rfl, rfl, rfl, rfl, rfl, rfl, rfl, trivial⟩) ?_
  rintro ⟨hR, hB, hl⟩ ⟨hi, hHR, hHB, hlines⟩
  dsimp only at hi hHR hHB hlines ⊢
  have oneR := hHR.one
  have oneB := hHB.one
  have hrl : ((rs.take hl.length).map fun r => lnOf j r.cs r.b).length = hl.length := by simp; omega
  (refine Qy (Qx fun K hK => ?_); refine Qw ilss rfl rfl rfl rfl ?_; refine Qj (hK _ _ (Qz (Qy ?_))); clear hK K)
  refine Q0 rfl (fun h => ?_) (fun h => ?_)
  · have hi2 : hl.length < rs.length := by omega
    have hrw : OkRw j (rs.getD hl.length rw0) := hr _ (by rw [List.getD_eq_getElem?_getD, List.getElem?_eq_getElem hi2]; exact List.getElem_mem hi2)
    have etake : (rs.take (hl.length + 1)).map (fun r => lnOf j r.cs r.b) = (rs.take hl.length).map (fun r => lnOf j r.cs r.b) ++ [lnOf j (rs.getD hl.length rw0).cs (rs.getD hl.length rw0).b] := by
      rw [List.take_succ_eq_append_getElem hi2, List.map_append, List.map_singleton, List.getD_eq_getElem?_getD, List.getElem?_eq_getElem hi2]; rfl
    have kl : ((hl.length : Int)).toNat = hl.length := Int.toNat_natCast _
    (refine QU (Qz (Qy (Q2 (Qy (Qx fun K hK => ?_))))); refine Qq rfl rfl rfl ?_)
    refine Qf rfl rfl rfl (by with_reducible exact sRows) (by omega) (rows_at (by omega) (by omega)) rfl ?_
    rw [kl]
    generalize rs.getD hl.length rw0 = rw at *
    generalize (rs.take hl.length).map (fun r => lnOf j r.cs r.b) = zs at *
    have hlen := hrw.len
    have hcs := hrw.cs
    have hb1 := hrw.b1
    have hb2 := hrw.b2
    refine X8 (n := 2) rfl rfl rfl (by with_reducible exact lRow) rfl rfl ?_
    refine Qd 4 rfl rfl (by with_reducible exact zvRowW) rfl (by exact lines_lt 10 _ _ 4 (by decide)) rfl ?_
    (refine Qv rfl rfl rfl ?_; refine Qa 2 rfl rfl rfl rfl rfl (by with_reducible first | exact szWh | exact szRow) rfl rfl ?_; refine Qj (hK _ _ (Qz (Qy ?_))); clear hK K; refine Qx (fun K hK => ?_); refine Qq rfl rfl rfl ?_; refine Qw (iadd (by omega) (by omega)) rfl rfl rfl rfl ?_)
    refine Ops.makeX (hl.length + 10) (j + 1) rfl rfl rfl (by omega) (by with_reducible exact sWhs) (by omega) (by omega) rfl (by exact lines_ge (.inl (Nat.le_refl _))) rfl (fun gb => ?_)
    refine Ops.weakX (hl.length + 10) (whs (List.replicate (j + 1) 0)) (bget_cons_eq ..) (whs_zero (j + 1)) ?_
    rw [bset_cons_eq]
    (refine Qv rfl rfl rfl ?_; refine Qj (hK _ _ (Qz (Qy (Qy ?_)))); clear hK K; refine Qx (fun K hK => ?_); refine QV rfl rfl rfl (by with_reducible first | exact fW0 | exact fW1 | exact fT0 | exact fT1 | exact fT2 | exact fT3 | exact fR0 | exact fR1) rfl ?_; refine QJ rfl rfl rfl rfl rfl (by with_reducible first | exact lInt | exact lNat | exact lBool | exact lInts | exact lMat | exact lWhs) rfl ?_; refine Q4 rfl rfl (by with_reducible first | exact sNat.und | exact sInts.und | exact sRows.und) (List.length_map ..) rfl ?_; refine Qq rfl rfl rfl ?_; refine Qj (hK _ _ (Qz (Q2 ?_))); clear hK K)
    refine Ql (α := Nat) (fun q => q ≤ rw.cs.length)
      (fun q => [(0, .ct (intC j)), (1, .ct (rowsC rs)), (2, .ct (intsC c)), (7, .own 0), (9, .ct (intC hl.length)), (10, .own 4), (11, .ct (.ex (.slice (some ⟨gb, 0, none⟩) (j + 1) (j + 1)))), (35, .ct (rowsC rs)), (36, .ct (intC rs.length)), (37, .ct (intC hl.length)), (46, .ct (intsC rw.cs)), (47, .ct (intC rw.cs.length)), (48, .ct (intC q))])
      (fun q => (hl.length + 10, .rowx (.slice (some ⟨gb, 0, none⟩) (j + 1) (j + 1)) 94 2 (whs (lnP j rw.cs q))) :: (4, .box 57 (rwCs rw)) :: (0, .box 98 (tb0 hR hB hC)) :: (1, .rowx hR 95 1 (hl.map CT.ex)) :: (2, .rowx hB 3 1 (ints (rng j hl.length))) :: (3, .rowx hC 3 1 (ints (rng 0 j))) :: linesB 10 hl zs)
      (fun q => rw.cs.length - q) 0 (Nat.zero_le _) (by exact QZ (by rw [lnP_zero]; rfl) ⟨rfl, rfl, rfl, rfl, rfl, rfl, rfl, rfl, rfl, rfl, rfl, rfl, rfl, trivial⟩) ?_
    intro q hq
    (try dsimp only at hq ⊢)
    have hpl := lnP_len j rw.cs q
    (refine Qy (Qx fun K hK => ?_); refine Qw ilss rfl rfl rfl rfl ?_; refine Qj (hK _ _ (Qz (Qy ?_))); clear hK K)
    refine Q0 rfl (fun h2 => ?_) (fun h2 => ?_)
    · have kq : (q : Int).toNat = q := Int.toNat_natCast _
      have kq2 : (q : Int).toNat * 2 = q * 2 := by omega
      have bq := hcs.get q
      have eset := lnP_set j rw.cs q (by omega)
      (refine QU (Qz (Qy (Q2 (Qy (Qx fun K hK => ?_))))); refine Qq rfl rfl rfl ?_; refine Qf rfl rfl rfl (by with_reducible first | exact sInts | exact sNat) (by omega) (ints_at (by omega) (by omega)) rfl ?_; refine Qm rfl rfl rfl (by with_reducible exact lInt) rfl ?_; refine Qv rfl rfl rfl ?_; refine Qv rfl rfl rfl ?_; refine Qj (hK _ _ (Qz ?_)); clear hK K; refine Qx (fun K hK => ?_); refine Qq rfl rfl rfl ?_; refine Qq rfl rfl rfl ?_; refine Qq rfl rfl rfl ?_)
      rw [kq]
      refine QX goof (of_ok _ (by omega) (by omega)) rfl rfl rfl rfl ?_
      refine Qi (hl.length + 10) (j + 1) rfl rfl (bget_cons_eq ..) (by rw [whs_len, hpl]) rfl sWhs (by omega) (by omega) rfl ?_
      rw [kq2]
      refine stWhX rfl rfl (bget_cons_eq ..) rfl (by omega) szWh ?_
      rw [bset_cons_eq, eset]
      (refine Qj (hK _ _ (Qz ?_)); clear hK K; refine Qx (fun K hK => ?_); refine Qw (iadd (by omega) (by omega)) rfl rfl rfl rfl ?_; refine Qq rfl rfl rfl ?_; refine Qj (hK _ _ (Q5 ?_)); clear hK K)
      refine Q8 (q + 1) (by omega) (by omega) (by exact QZ rfl ⟨rfl, rfl, rfl, rfl, rfl, rfl, rfl, rfl, rfl, rfl, rfl, rfl, by simp only [Int.natCast_add]; rfl, trivial⟩)
    have hq' : q = rw.cs.length := by omega
    subst hq'
    have kj2 : (j : Int).toNat * 2 = j * 2 := by omega
    have edone := lnP_done j rw.cs rw.b hlen
    generalize lnP j rw.cs rw.cs.length = cur at *
    (refine Qe (Qz (Qy (Qx fun K hK => ?_))); refine Qq rfl rfl rfl ?_; refine Qq rfl rfl rfl ?_; refine QV rfl rfl rfl (by with_reducible first | exact fW0 | exact fW1 | exact fT0 | exact fT1 | exact fT2 | exact fT3 | exact fR0 | exact fR1) rfl ?_; refine QJ rfl rfl rfl rfl rfl (by with_reducible first | exact lInt | exact lNat | exact lBool | exact lInts | exact lMat | exact lWhs) rfl ?_)
    refine QX goof (of_ok _ (by omega) (by omega)) rfl rfl rfl rfl ?_
    refine Qi (hl.length + 10) (j + 1) rfl rfl (bget_cons_eq ..) (by rw [whs_len, hpl]) rfl sWhs (by omega) (by omega) rfl ?_
    rw [kj2]
    refine stWhX rfl rfl (bget_cons_eq ..) rfl (by omega) szWh ?_
    rw [bset_cons_eq, edone]
    generalize lnOf j rw.cs rw.b = line at *
    (refine Qj (hK _ _ (Qz ?_)); clear hK K)
    refine St.drawQ (by with_reducible exact mixed) [8, 17, 20, 23] (.p 0 (.p 1 (.p 2 (.p 3 (.p 4 (.p 6 (.p 9 (.p 10 (.p 11 (.p 13 (.p 14 (.p 15 (.f 5 (.m 7 (.a 8 (.m 12 (.m 16 (.a 17 (.p 18 (.p 19 (.a 20 (.p 21 (.p 22 (.a 23 .done .non))) .non))) .non) .non) (.m 16 (.m 12 (.a 17 (.p 18 (.p 19 (.a 20 (.p 21 (.p 22 (.a 23 .done .non))) .non))) .non) .non) .non)) (.m 12 (.a 8 (.m 16 (.a 17 (.p 18 (.p 19 (.a 20 (.p 21 (.p 22 (.a 23 .done .non))) .non))) .non) .non) (.m 16 (.a 8 (.a 17 (.p 18 (.p 19 (.a 20 (.p 21 (.p 22 (.a 23 .done .non))) .non))) .non) .non) .non)) (.m 16 (.a 8 (.m 12 (.a 17 (.p 18 (.p 19 (.a 20 (.p 21 (.p 22 (.a 23 .done .non))) .non))) .non) .non) (.m 12 (.a 8 (.a 17 (.p 18 (.p 19 (.a 20 (.p 21 (.p 22 (.a 23 .done .non))) .non))) .non) .non) .non)) .non))) (.m 12 (.m 7 (.a 8 (.m 16 (.a 17 (.p 18 (.p 19 (.a 20 (.p 21 (.p 22 (.a 23 .done .non))) .non))) .non) .non) (.m 16 (.a 8 (.a 17 (.p 18 (.p 19 (.a 20 (.p 21 (.p 22 (.a 23 .done .non))) .non))) .non) .non) .non)) (.m 16 (.m 7 (.a 8 (.a 17 (.p 18 (.p 19 (.a 20 (.p 21 (.p 22 (.a 23 .done .non))) .non))) .non) .non) .non) .non)) (.m 16 (.m 7 (.a 8 (.m 12 (.a 17 (.p 18 (.p 19 (.a 20 (.p 21 (.p 22 (.a 23 .done .non))) .non))) .non) .non) (.m 12 (.a 8 (.a 17 (.p 18 (.p 19 (.a 20 (.p 21 (.p 22 (.a 23 .done .non))) .non))) .non) .non) .non)) (.m 12 (.m 7 (.a 8 (.a 17 (.p 18 (.p 19 (.a 20 (.p 21 (.p 22 (.a 23 .done .non))) .non))) .non) .non) .non) .non)) .non)))))))))))))))) (by kernel_rfl) (fun K hK => ?_)
    refine (fun (cont : ∀ x : Nat × Nat × Nat × Nat, (hl.length + 1 ≤ x.2.1 ∧ x.2.1 ≤ maxLen ∧ hl.length + 1 ≤ x.2.2.2 ∧ x.2.2.2 ≤ maxLen) → Go.Own.Fin _ [(0, .ct (intC j)), (1, .ct (rowsC rs)), (2, .ct (intsC c)), (7, .own 0), (35, .ct (rowsC rs)), (36, .ct (intC rs.length)), (37, .ct (intC hl.length))]
      ((hl.length + 10, .rowx (.slice (some ⟨gb, 0, none⟩) (j + 1) (j + 1)) 94 2 (whs line)) :: (4, .box 57 (rwCs rw)) :: (0, .box 98 (tb0 (.slice (some ⟨x.1, 0, none⟩) (hl.length + 1) x.2.1) (.slice (some ⟨x.2.2.1, 0, none⟩) (hl.length + 1) x.2.2.2) hC)) :: (1, .rowx (.slice (some ⟨x.1, 0, none⟩) (hl.length + 1) x.2.1) 95 1 ((hl ++ [Value.slice (some ⟨gb, 0, none⟩) (j + 1) (j + 1)]).map CT.ex)) :: (2, .rowx (.slice (some ⟨x.2.2.1, 0, none⟩) (hl.length + 1) x.2.2.2) 3 1 (ints (rng j (hl.length + 1)))) :: (3, .rowx hC 3 1 (ints (rng 0 j))) :: linesB 10 hl zs) K) => ?_) (fun x hx => hK _ _ ?_)
    rotate_left
    · obtain ⟨g1, c1, g2, c2⟩ := x
      obtain ⟨e1, e2, e3, e4⟩ := hx
      clear hK K
      (refine Qz (Qx fun K hK => ?_); refine Qw (iadd (by omega) (by omega)) rfl rfl rfl rfl ?_; refine Qq rfl rfl rfl ?_; refine Qj (hK _ _ (Q5 ?_)); clear hK K)
      dsimp only at e1 e2 e3 e4
      have hll : (hl ++ [Value.slice (some ⟨gb, 0, none⟩) (j + 1) (j + 1)]).length = hl.length + 1 := by simp
      refine Q8 (Value.slice (some ⟨g1, 0, none⟩) (hl.length + 1) c1, Value.slice (some ⟨g2, 0, none⟩) (hl.length + 1) c2, hl ++ [Value.slice (some ⟨gb, 0, none⟩) (j + 1) (j + 1)]) (by dsimp only; omega) ⟨by dsimp only; omega, by dsimp only; rw [hll]; exact .inr ⟨by omega, g1, c1, e1, e2, rfl⟩, by dsimp only; rw [hll]; exact .inr ⟨by omega, g2, c2, e3, e4, rfl⟩, fun h hh => ?_⟩ (by exact X3 4 (Xa (by
        dsimp only
        rw [hll, etake]; exact step_B (by omega)) ⟨rfl, rfl, rfl, rfl, rfl, rfl, by rw [hll]; simp only [Int.natCast_add]; rfl, trivial⟩))
      rcases List.mem_append.1 hh with hh | hh
      · exact hlines h hh
      · exact ⟨gb, by simpa using hh⟩
    clear hK
    refine Qo (Qq rfl rfl rfl (Qj ?_))
    refine Qo (Qq rfl rfl rfl (Qj ?_))
    refine Qo (Qq rfl rfl rfl (Qj ?_))
    refine Qo (Q1 rfl rfl rfl rfl (Qj ?_))
    refine Qo (QV rfl rfl rfl (by with_reducible exact fT0) rfl (Qj ?_))
    refine Qo (Qq rfl rfl rfl (Qj ?_))
    refine Qo (Qq rfl rfl rfl (Qj ?_))
    refine Qo (Q1 rfl rfl rfl rfl (Qj ?_))
    refine Qo (QV rfl rfl rfl (by with_reducible exact fT1) rfl (Qj ?_))
    refine Qo (Qq rfl rfl rfl (Qj ?_))
    refine Qo (Qq rfl rfl rfl (Qj ?_))
    refine Qo (Qw (iadd (by omega) (by omega)) rfl rfl rfl rfl (Qj ?_))
    refine Fin.qf (QJ rfl rfl rfl rfl rfl (by with_reducible exact lMat) rfl (Qj ?_))
    refine XK ?_ ?_
    · refine Xx rfl rfl (by with_reducible exact sMat) rfl rfl rfl ?_
      refine Qj ?_
      refine Xj ?_ ?_
      · refine XQ 70 1 rfl rfl ?_
        refine Qh hl.length ((hl ++ [Value.slice (some ⟨gb, 0, none⟩) (j + 1) (j + 1)]).map CT.ex) rfl rfl rfl rfl (by with_reducible exact sMat) (by simp) rfl (by omega) (by omega) (by simp) rfl ?_
        refine Xy 73 1 (hl.length + 1) rfl rfl (by simp) (by omega) (by decide) (fun g1 c1 e1 e2 => ?_)
        refine Qj ?_
        refine XK ?_ ?_
        · refine QJ rfl rfl rfl rfl rfl (by with_reducible exact lInts) rfl ?_
          refine Qj ?_
          refine XK ?_ ?_
          · refine Xx rfl rfl (by with_reducible exact sInts) rfl rfl rfl ?_
            refine Qj ?_
            refine Xj ?_ Qc
            refine XQ 77 2 rfl rfl ?_
            refine Qh hl.length (ints (rng j (hl.length + 1))) rfl rfl rfl rfl (by with_reducible exact sInts) (by simp [rng_len]) rfl (by omega) (by omega) (by rw [rng_succ, ints_app, Int.natCast_add]; rfl) rfl ?_
            refine Xy 82 2 (hl.length + 1) rfl rfl (by simp [rng_len]) (by omega) (by decide) (fun g2 c2 e3 e4 => ?_)
            refine Qj ?_
            refine Qo (Q1 rfl rfl rfl rfl (Qj ?_))
            refine Qo (QV rfl rfl rfl (by with_reducible exact fT0) rfl (Qj ?_))
            refine Xj (Qn rfl rfl rfl rfl rfl (by with_reducible exact zMat) (Nat.le_of_ble_eq_true rfl) (Qj ?_)) Qc
            refine Qo (Q1 rfl rfl rfl rfl (Qj ?_))
            refine Qo (QV rfl rfl rfl (by with_reducible exact fT1) rfl (Qj ?_))
            refine Xj (Qn rfl rfl rfl rfl rfl (by with_reducible exact zInts) (Nat.le_of_ble_eq_true rfl) (Qj ?_)) Qc
            exact XZ (XU cont (g1, c1, g2, c2) ⟨e1, e2, e3, e4⟩ (by exact QZ rfl ⟨rfl, rfl, rfl, rfl, rfl, rfl, rfl, trivial⟩))
          exact Qc
        refine XK ?_ ?_
        · refine Xx rfl rfl (by with_reducible exact sInts) rfl rfl rfl ?_
          refine Qj ?_
          refine XK ?_ ?_
          · refine QJ rfl rfl rfl rfl rfl (by with_reducible exact lInts) rfl ?_
            refine Qj ?_
            refine Xj ?_ Qc
            refine XQ 77 2 rfl rfl ?_
            refine Qh hl.length (ints (rng j (hl.length + 1))) rfl rfl rfl rfl (by with_reducible exact sInts) (by simp [rng_len]) rfl (by omega) (by omega) (by rw [rng_succ, ints_app, Int.natCast_add]; rfl) rfl ?_
            refine Xy 82 2 (hl.length + 1) rfl rfl (by simp [rng_len]) (by omega) (by decide) (fun g2 c2 e3 e4 => ?_)
            refine Qj ?_
            refine Qo (Q1 rfl rfl rfl rfl (Qj ?_))
            refine Qo (QV rfl rfl rfl (by with_reducible exact fT0) rfl (Qj ?_))
            refine Xj (Qn rfl rfl rfl rfl rfl (by with_reducible exact zMat) (Nat.le_of_ble_eq_true rfl) (Qj ?_)) Qc
            refine Qo (Q1 rfl rfl rfl rfl (Qj ?_))
            refine Qo (QV rfl rfl rfl (by with_reducible exact fT1) rfl (Qj ?_))
            refine Xj (Qn rfl rfl rfl rfl rfl (by with_reducible exact zInts) (Nat.le_of_ble_eq_true rfl) (Qj ?_)) Qc
            exact XZ (XU cont (g1, c1, g2, c2) ⟨e1, e2, e3, e4⟩ (by exact QZ rfl ⟨rfl, rfl, rfl, rfl, rfl, rfl, rfl, trivial⟩))
          exact Qc
        exact Qc
      refine XK ?_ ?_
      · refine QJ rfl rfl rfl rfl rfl (by with_reducible exact lInts) rfl ?_
        refine Qj ?_
        refine Xj ?_ ?_
        · refine XQ 70 1 rfl rfl ?_
          refine Qh hl.length ((hl ++ [Value.slice (some ⟨gb, 0, none⟩) (j + 1) (j + 1)]).map CT.ex) rfl rfl rfl rfl (by with_reducible exact sMat) (by simp) rfl (by omega) (by omega) (by simp) rfl ?_
          refine Xy 73 1 (hl.length + 1) rfl rfl (by simp) (by omega) (by decide) (fun g1 c1 e1 e2 => ?_)
          refine Qj ?_
          refine XK ?_ ?_
          · refine Xx rfl rfl (by with_reducible exact sInts) rfl rfl rfl ?_
            refine Qj ?_
            refine Xj ?_ Qc
            refine XQ 77 2 rfl rfl ?_
            refine Qh hl.length (ints (rng j (hl.length + 1))) rfl rfl rfl rfl (by with_reducible exact sInts) (by simp [rng_len]) rfl (by omega) (by omega) (by rw [rng_succ, ints_app, Int.natCast_add]; rfl) rfl ?_
            refine Xy 82 2 (hl.length + 1) rfl rfl (by simp [rng_len]) (by omega) (by decide) (fun g2 c2 e3 e4 => ?_)
            refine Qj ?_
            refine Qo (Q1 rfl rfl rfl rfl (Qj ?_))
            refine Qo (QV rfl rfl rfl (by with_reducible exact fT0) rfl (Qj ?_))
            refine Xj (Qn rfl rfl rfl rfl rfl (by with_reducible exact zMat) (Nat.le_of_ble_eq_true rfl) (Qj ?_)) Qc
            refine Qo (Q1 rfl rfl rfl rfl (Qj ?_))
            refine Qo (QV rfl rfl rfl (by with_reducible exact fT1) rfl (Qj ?_))
            refine Xj (Qn rfl rfl rfl rfl rfl (by with_reducible exact zInts) (Nat.le_of_ble_eq_true rfl) (Qj ?_)) Qc
            exact XZ (XU cont (g1, c1, g2, c2) ⟨e1, e2, e3, e4⟩ (by exact QZ rfl ⟨rfl, rfl, rfl, rfl, rfl, rfl, rfl, trivial⟩))
          exact Qc
        refine XK ?_ ?_
        · refine Xx rfl rfl (by with_reducible exact sInts) rfl rfl rfl ?_
          refine Qj ?_
          refine Xj ?_ ?_
          · refine XQ 70 1 rfl rfl ?_
            refine Qh hl.length ((hl ++ [Value.slice (some ⟨gb, 0, none⟩) (j + 1) (j + 1)]).map CT.ex) rfl rfl rfl rfl (by with_reducible exact sMat) (by simp) rfl (by omega) (by omega) (by simp) rfl ?_
            refine Xy 73 1 (hl.length + 1) rfl rfl (by simp) (by omega) (by decide) (fun g1 c1 e1 e2 => ?_)
            refine Qj ?_
            refine Xj ?_ Qc
            refine XQ 77 2 rfl rfl ?_
            refine Qh hl.length (ints (rng j (hl.length + 1))) rfl rfl rfl rfl (by with_reducible exact sInts) (by simp [rng_len]) rfl (by omega) (by omega) (by rw [rng_succ, ints_app, Int.natCast_add]; rfl) rfl ?_
            refine Xy 82 2 (hl.length + 1) rfl rfl (by simp [rng_len]) (by omega) (by decide) (fun g2 c2 e3 e4 => ?_)
            refine Qj ?_
            refine Qo (Q1 rfl rfl rfl rfl (Qj ?_))
            refine Qo (QV rfl rfl rfl (by with_reducible exact fT0) rfl (Qj ?_))
            refine Xj (Qn rfl rfl rfl rfl rfl (by with_reducible exact zMat) (Nat.le_of_ble_eq_true rfl) (Qj ?_)) Qc
            refine Qo (Q1 rfl rfl rfl rfl (Qj ?_))
            refine Qo (QV rfl rfl rfl (by with_reducible exact fT1) rfl (Qj ?_))
            refine Xj (Qn rfl rfl rfl rfl rfl (by with_reducible exact zInts) (Nat.le_of_ble_eq_true rfl) (Qj ?_)) Qc
            exact XZ (XU cont (g1, c1, g2, c2) ⟨e1, e2, e3, e4⟩ (by exact QZ rfl ⟨rfl, rfl, rfl, rfl, rfl, rfl, rfl, trivial⟩))
          exact Qc
        exact Qc
      refine XK ?_ ?_
      · refine Xx rfl rfl (by with_reducible exact sInts) rfl rfl rfl ?_
        refine Qj ?_
        refine Xj ?_ ?_
        · refine XQ 70 1 rfl rfl ?_
          refine Qh hl.length ((hl ++ [Value.slice (some ⟨gb, 0, none⟩) (j + 1) (j + 1)]).map CT.ex) rfl rfl rfl rfl (by with_reducible exact sMat) (by simp) rfl (by omega) (by omega) (by simp) rfl ?_
          refine Xy 73 1 (hl.length + 1) rfl rfl (by simp) (by omega) (by decide) (fun g1 c1 e1 e2 => ?_)
          refine Qj ?_
          refine XK ?_ ?_
          · refine QJ rfl rfl rfl rfl rfl (by with_reducible exact lInts) rfl ?_
            refine Qj ?_
            refine Xj ?_ Qc
            refine XQ 77 2 rfl rfl ?_
            refine Qh hl.length (ints (rng j (hl.length + 1))) rfl rfl rfl rfl (by with_reducible exact sInts) (by simp [rng_len]) rfl (by omega) (by omega) (by rw [rng_succ, ints_app, Int.natCast_add]; rfl) rfl ?_
            refine Xy 82 2 (hl.length + 1) rfl rfl (by simp [rng_len]) (by omega) (by decide) (fun g2 c2 e3 e4 => ?_)
            refine Qj ?_
            refine Qo (Q1 rfl rfl rfl rfl (Qj ?_))
            refine Qo (QV rfl rfl rfl (by with_reducible exact fT0) rfl (Qj ?_))
            refine Xj (Qn rfl rfl rfl rfl rfl (by with_reducible exact zMat) (Nat.le_of_ble_eq_true rfl) (Qj ?_)) Qc
            refine Qo (Q1 rfl rfl rfl rfl (Qj ?_))
            refine Qo (QV rfl rfl rfl (by with_reducible exact fT1) rfl (Qj ?_))
            refine Xj (Qn rfl rfl rfl rfl rfl (by with_reducible exact zInts) (Nat.le_of_ble_eq_true rfl) (Qj ?_)) Qc
            exact XZ (XU cont (g1, c1, g2, c2) ⟨e1, e2, e3, e4⟩ (by exact QZ rfl ⟨rfl, rfl, rfl, rfl, rfl, rfl, rfl, trivial⟩))
          exact Qc
        refine XK ?_ ?_
        · refine QJ rfl rfl rfl rfl rfl (by with_reducible exact lInts) rfl ?_
          refine Qj ?_
          refine Xj ?_ ?_
          · refine XQ 70 1 rfl rfl ?_
            refine Qh hl.length ((hl ++ [Value.slice (some ⟨gb, 0, none⟩) (j + 1) (j + 1)]).map CT.ex) rfl rfl rfl rfl (by with_reducible exact sMat) (by simp) rfl (by omega) (by omega) (by simp) rfl ?_
            refine Xy 73 1 (hl.length + 1) rfl rfl (by simp) (by omega) (by decide) (fun g1 c1 e1 e2 => ?_)
            refine Qj ?_
            refine Xj ?_ Qc
            refine XQ 77 2 rfl rfl ?_
            refine Qh hl.length (ints (rng j (hl.length + 1))) rfl rfl rfl rfl (by with_reducible exact sInts) (by simp [rng_len]) rfl (by omega) (by omega) (by rw [rng_succ, ints_app, Int.natCast_add]; rfl) rfl ?_
            refine Xy 82 2 (hl.length + 1) rfl rfl (by simp [rng_len]) (by omega) (by decide) (fun g2 c2 e3 e4 => ?_)
            refine Qj ?_
            refine Qo (Q1 rfl rfl rfl rfl (Qj ?_))
            refine Qo (QV rfl rfl rfl (by with_reducible exact fT0) rfl (Qj ?_))
            refine Xj (Qn rfl rfl rfl rfl rfl (by with_reducible exact zMat) (Nat.le_of_ble_eq_true rfl) (Qj ?_)) Qc
            refine Qo (Q1 rfl rfl rfl rfl (Qj ?_))
            refine Qo (QV rfl rfl rfl (by with_reducible exact fT1) rfl (Qj ?_))
            refine Xj (Qn rfl rfl rfl rfl rfl (by with_reducible exact zInts) (Nat.le_of_ble_eq_true rfl) (Qj ?_)) Qc
            exact XZ (XU cont (g1, c1, g2, c2) ⟨e1, e2, e3, e4⟩ (by exact QZ rfl ⟨rfl, rfl, rfl, rfl, rfl, rfl, rfl, trivial⟩))
          exact Qc
        exact Qc
      exact Qc
    refine XK ?_ ?_
    · refine QJ rfl rfl rfl rfl rfl (by with_reducible exact lInts) rfl ?_
      refine Qj ?_
      refine XK ?_ ?_
      · refine Xx rfl rfl (by with_reducible exact sMat) rfl rfl rfl ?_
        refine Qj ?_
        refine Xj ?_ ?_
        · refine XQ 70 1 rfl rfl ?_
          refine Qh hl.length ((hl ++ [Value.slice (some ⟨gb, 0, none⟩) (j + 1) (j + 1)]).map CT.ex) rfl rfl rfl rfl (by with_reducible exact sMat) (by simp) rfl (by omega) (by omega) (by simp) rfl ?_
          refine Xy 73 1 (hl.length + 1) rfl rfl (by simp) (by omega) (by decide) (fun g1 c1 e1 e2 => ?_)
          refine Qj ?_
          refine XK ?_ ?_
          · refine Xx rfl rfl (by with_reducible exact sInts) rfl rfl rfl ?_
            refine Qj ?_
            refine Xj ?_ Qc
            refine XQ 77 2 rfl rfl ?_
            refine Qh hl.length (ints (rng j (hl.length + 1))) rfl rfl rfl rfl (by with_reducible exact sInts) (by simp [rng_len]) rfl (by omega) (by omega) (by rw [rng_succ, ints_app, Int.natCast_add]; rfl) rfl ?_
            refine Xy 82 2 (hl.length + 1) rfl rfl (by simp [rng_len]) (by omega) (by decide) (fun g2 c2 e3 e4 => ?_)
            refine Qj ?_
            refine Qo (Q1 rfl rfl rfl rfl (Qj ?_))
            refine Qo (QV rfl rfl rfl (by with_reducible exact fT0) rfl (Qj ?_))
            refine Xj (Qn rfl rfl rfl rfl rfl (by with_reducible exact zMat) (Nat.le_of_ble_eq_true rfl) (Qj ?_)) Qc
            refine Qo (Q1 rfl rfl rfl rfl (Qj ?_))
            refine Qo (QV rfl rfl rfl (by with_reducible exact fT1) rfl (Qj ?_))
            refine Xj (Qn rfl rfl rfl rfl rfl (by with_reducible exact zInts) (Nat.le_of_ble_eq_true rfl) (Qj ?_)) Qc
            exact XZ (XU cont (g1, c1, g2, c2) ⟨e1, e2, e3, e4⟩ (by exact QZ rfl ⟨rfl, rfl, rfl, rfl, rfl, rfl, rfl, trivial⟩))
          exact Qc
        refine XK ?_ ?_
        · refine Xx rfl rfl (by with_reducible exact sInts) rfl rfl rfl ?_
          refine Qj ?_
          refine Xj ?_ ?_
          · refine XQ 70 1 rfl rfl ?_
            refine Qh hl.length ((hl ++ [Value.slice (some ⟨gb, 0, none⟩) (j + 1) (j + 1)]).map CT.ex) rfl rfl rfl rfl (by with_reducible exact sMat) (by simp) rfl (by omega) (by omega) (by simp) rfl ?_
            refine Xy 73 1 (hl.length + 1) rfl rfl (by simp) (by omega) (by decide) (fun g1 c1 e1 e2 => ?_)
            refine Qj ?_
            refine Xj ?_ Qc
            refine XQ 77 2 rfl rfl ?_
            refine Qh hl.length (ints (rng j (hl.length + 1))) rfl rfl rfl rfl (by with_reducible exact sInts) (by simp [rng_len]) rfl (by omega) (by omega) (by rw [rng_succ, ints_app, Int.natCast_add]; rfl) rfl ?_
            refine Xy 82 2 (hl.length + 1) rfl rfl (by simp [rng_len]) (by omega) (by decide) (fun g2 c2 e3 e4 => ?_)
            refine Qj ?_
            refine Qo (Q1 rfl rfl rfl rfl (Qj ?_))
            refine Qo (QV rfl rfl rfl (by with_reducible exact fT0) rfl (Qj ?_))
            refine Xj (Qn rfl rfl rfl rfl rfl (by with_reducible exact zMat) (Nat.le_of_ble_eq_true rfl) (Qj ?_)) Qc
            refine Qo (Q1 rfl rfl rfl rfl (Qj ?_))
            refine Qo (QV rfl rfl rfl (by with_reducible exact fT1) rfl (Qj ?_))
            refine Xj (Qn rfl rfl rfl rfl rfl (by with_reducible exact zInts) (Nat.le_of_ble_eq_true rfl) (Qj ?_)) Qc
            exact XZ (XU cont (g1, c1, g2, c2) ⟨e1, e2, e3, e4⟩ (by exact QZ rfl ⟨rfl, rfl, rfl, rfl, rfl, rfl, rfl, trivial⟩))
          exact Qc
        exact Qc
      refine XK ?_ ?_
      · refine Xx rfl rfl (by with_reducible exact sInts) rfl rfl rfl ?_
        refine Qj ?_
        refine XK ?_ ?_
        · refine Xx rfl rfl (by with_reducible exact sMat) rfl rfl rfl ?_
          refine Qj ?_
          refine Xj ?_ ?_
          · refine XQ 70 1 rfl rfl ?_
            refine Qh hl.length ((hl ++ [Value.slice (some ⟨gb, 0, none⟩) (j + 1) (j + 1)]).map CT.ex) rfl rfl rfl rfl (by with_reducible exact sMat) (by simp) rfl (by omega) (by omega) (by simp) rfl ?_
            refine Xy 73 1 (hl.length + 1) rfl rfl (by simp) (by omega) (by decide) (fun g1 c1 e1 e2 => ?_)
            refine Qj ?_
            refine Xj ?_ Qc
            refine XQ 77 2 rfl rfl ?_
            refine Qh hl.length (ints (rng j (hl.length + 1))) rfl rfl rfl rfl (by with_reducible exact sInts) (by simp [rng_len]) rfl (by omega) (by omega) (by rw [rng_succ, ints_app, Int.natCast_add]; rfl) rfl ?_
            refine Xy 82 2 (hl.length + 1) rfl rfl (by simp [rng_len]) (by omega) (by decide) (fun g2 c2 e3 e4 => ?_)
            refine Qj ?_
            refine Qo (Q1 rfl rfl rfl rfl (Qj ?_))
            refine Qo (QV rfl rfl rfl (by with_reducible exact fT0) rfl (Qj ?_))
            refine Xj (Qn rfl rfl rfl rfl rfl (by with_reducible exact zMat) (Nat.le_of_ble_eq_true rfl) (Qj ?_)) Qc
            refine Qo (Q1 rfl rfl rfl rfl (Qj ?_))
            refine Qo (QV rfl rfl rfl (by with_reducible exact fT1) rfl (Qj ?_))
            refine Xj (Qn rfl rfl rfl rfl rfl (by with_reducible exact zInts) (Nat.le_of_ble_eq_true rfl) (Qj ?_)) Qc
            exact XZ (XU cont (g1, c1, g2, c2) ⟨e1, e2, e3, e4⟩ (by exact QZ rfl ⟨rfl, rfl, rfl, rfl, rfl, rfl, rfl, trivial⟩))
          exact Qc
        exact Qc
      exact Qc
    refine XK ?_ ?_
    · refine Xx rfl rfl (by with_reducible exact sInts) rfl rfl rfl ?_
      refine Qj ?_
      refine XK ?_ ?_
      · refine Xx rfl rfl (by with_reducible exact sMat) rfl rfl rfl ?_
        refine Qj ?_
        refine Xj ?_ ?_
        · refine XQ 70 1 rfl rfl ?_
          refine Qh hl.length ((hl ++ [Value.slice (some ⟨gb, 0, none⟩) (j + 1) (j + 1)]).map CT.ex) rfl rfl rfl rfl (by with_reducible exact sMat) (by simp) rfl (by omega) (by omega) (by simp) rfl ?_
          refine Xy 73 1 (hl.length + 1) rfl rfl (by simp) (by omega) (by decide) (fun g1 c1 e1 e2 => ?_)
          refine Qj ?_
          refine XK ?_ ?_
          · refine QJ rfl rfl rfl rfl rfl (by with_reducible exact lInts) rfl ?_
            refine Qj ?_
            refine Xj ?_ Qc
            refine XQ 77 2 rfl rfl ?_
            refine Qh hl.length (ints (rng j (hl.length + 1))) rfl rfl rfl rfl (by with_reducible exact sInts) (by simp [rng_len]) rfl (by omega) (by omega) (by rw [rng_succ, ints_app, Int.natCast_add]; rfl) rfl ?_
            refine Xy 82 2 (hl.length + 1) rfl rfl (by simp [rng_len]) (by omega) (by decide) (fun g2 c2 e3 e4 => ?_)
            refine Qj ?_
            refine Qo (Q1 rfl rfl rfl rfl (Qj ?_))
            refine Qo (QV rfl rfl rfl (by with_reducible exact fT0) rfl (Qj ?_))
            refine Xj (Qn rfl rfl rfl rfl rfl (by with_reducible exact zMat) (Nat.le_of_ble_eq_true rfl) (Qj ?_)) Qc
            refine Qo (Q1 rfl rfl rfl rfl (Qj ?_))
            refine Qo (QV rfl rfl rfl (by with_reducible exact fT1) rfl (Qj ?_))
            refine Xj (Qn rfl rfl rfl rfl rfl (by with_reducible exact zInts) (Nat.le_of_ble_eq_true rfl) (Qj ?_)) Qc
            exact XZ (XU cont (g1, c1, g2, c2) ⟨e1, e2, e3, e4⟩ (by exact QZ rfl ⟨rfl, rfl, rfl, rfl, rfl, rfl, rfl, trivial⟩))
          exact Qc
        refine XK ?_ ?_
        · refine QJ rfl rfl rfl rfl rfl (by with_reducible exact lInts) rfl ?_
          refine Qj ?_
          refine Xj ?_ ?_
          · refine XQ 70 1 rfl rfl ?_
            refine Qh hl.length ((hl ++ [Value.slice (some ⟨gb, 0, none⟩) (j + 1) (j + 1)]).map CT.ex) rfl rfl rfl rfl (by with_reducible exact sMat) (by simp) rfl (by omega) (by omega) (by simp) rfl ?_
            refine Xy 73 1 (hl.length + 1) rfl rfl (by simp) (by omega) (by decide) (fun g1 c1 e1 e2 => ?_)
            refine Qj ?_
            refine Xj ?_ Qc
            refine XQ 77 2 rfl rfl ?_
            refine Qh hl.length (ints (rng j (hl.length + 1))) rfl rfl rfl rfl (by with_reducible exact sInts) (by simp [rng_len]) rfl (by omega) (by omega) (by rw [rng_succ, ints_app, Int.natCast_add]; rfl) rfl ?_
            refine Xy 82 2 (hl.length + 1) rfl rfl (by simp [rng_len]) (by omega) (by decide) (fun g2 c2 e3 e4 => ?_)
            refine Qj ?_
            refine Qo (Q1 rfl rfl rfl rfl (Qj ?_))
            refine Qo (QV rfl rfl rfl (by with_reducible exact fT0) rfl (Qj ?_))
            refine Xj (Qn rfl rfl rfl rfl rfl (by with_reducible exact zMat) (Nat.le_of_ble_eq_true rfl) (Qj ?_)) Qc
            refine Qo (Q1 rfl rfl rfl rfl (Qj ?_))
            refine Qo (QV rfl rfl rfl (by with_reducible exact fT1) rfl (Qj ?_))
            refine Xj (Qn rfl rfl rfl rfl rfl (by with_reducible exact zInts) (Nat.le_of_ble_eq_true rfl) (Qj ?_)) Qc
            exact XZ (XU cont (g1, c1, g2, c2) ⟨e1, e2, e3, e4⟩ (by exact QZ rfl ⟨rfl, rfl, rfl, rfl, rfl, rfl, rfl, trivial⟩))
          exact Qc
        exact Qc
      refine XK ?_ ?_
      · refine QJ rfl rfl rfl rfl rfl (by with_reducible exact lInts) rfl ?_
        refine Qj ?_
        refine XK ?_ ?_
        · refine Xx rfl rfl (by with_reducible exact sMat) rfl rfl rfl ?_
          refine Qj ?_
          refine Xj ?_ ?_
          · refine XQ 70 1 rfl rfl ?_
            refine Qh hl.length ((hl ++ [Value.slice (some ⟨gb, 0, none⟩) (j + 1) (j + 1)]).map CT.ex) rfl rfl rfl rfl (by with_reducible exact sMat) (by simp) rfl (by omega) (by omega) (by simp) rfl ?_
            refine Xy 73 1 (hl.length + 1) rfl rfl (by simp) (by omega) (by decide) (fun g1 c1 e1 e2 => ?_)
            refine Qj ?_
            refine Xj ?_ Qc
            refine XQ 77 2 rfl rfl ?_
            refine Qh hl.length (ints (rng j (hl.length + 1))) rfl rfl rfl rfl (by with_reducible exact sInts) (by simp [rng_len]) rfl (by omega) (by omega) (by rw [rng_succ, ints_app, Int.natCast_add]; rfl) rfl ?_
            refine Xy 82 2 (hl.length + 1) rfl rfl (by simp [rng_len]) (by omega) (by decide) (fun g2 c2 e3 e4 => ?_)
            refine Qj ?_
            refine Qo (Q1 rfl rfl rfl rfl (Qj ?_))
            refine Qo (QV rfl rfl rfl (by with_reducible exact fT0) rfl (Qj ?_))
            refine Xj (Qn rfl rfl rfl rfl rfl (by with_reducible exact zMat) (Nat.le_of_ble_eq_true rfl) (Qj ?_)) Qc
            refine Qo (Q1 rfl rfl rfl rfl (Qj ?_))
            refine Qo (QV rfl rfl rfl (by with_reducible exact fT1) rfl (Qj ?_))
            refine Xj (Qn rfl rfl rfl rfl rfl (by with_reducible exact zInts) (Nat.le_of_ble_eq_true rfl) (Qj ?_)) Qc
            exact XZ (XU cont (g1, c1, g2, c2) ⟨e1, e2, e3, e4⟩ (by exact QZ rfl ⟨rfl, rfl, rfl, rfl, rfl, rfl, rfl, trivial⟩))
          exact Qc
        exact Qc
      exact Qc
    exact Qc
  have hi' : hl.length = rs.length := by omega
  rw [show rs.take hl.length = rs by rw [hi', List.take_length]] at hrl ⊢
  generalize hzs : (rs.map fun r => lnOf j r.cs r.b) = zs at *
  (refine Qe (Qz (Qy (Qx fun K hK => ?_))); refine Qq rfl rfl rfl ?_; refine Qw (iadd (by omega) (by omega)) rfl rfl rfl rfl ?_)
  refine Ops.makeX (hl.length + 10) (j + 1) rfl rfl rfl (by omega) (by with_reducible exact sWhs) (by omega) (by omega) rfl (by exact lines_ge (.inl (Nat.le_refl _))) rfl (fun gb => ?_)
  refine Ops.weakX (hl.length + 10) (whs (List.replicate (j + 1) 0)) (bget_cons_eq ..) (whs_zero (j + 1)) ?_
  rw [bset_cons_eq]
  (refine Qv rfl rfl rfl ?_; refine Qj (hK _ _ (Qz (Qy (Qy ?_)))); clear hK K; refine Qx (fun K hK => ?_); refine Qq rfl rfl rfl ?_; refine Q4 rfl rfl (by with_reducible first | exact sNat.und | exact sInts.und | exact sRows.und) (List.length_map ..) rfl ?_; refine Qq rfl rfl rfl ?_; refine Qj (hK _ _ (Qz (Q2 ?_))); clear hK K)
  refine Ql (α := Nat) (fun q => q ≤ c.length)
    (fun q => [(0, .ct (intC j)), (7, .own 0), (14, .ct (.ex (.slice (some ⟨gb, 0, none⟩) (j + 1) (j + 1)))), (91, .ct (intsC c)), (92, .ct (intC c.length)), (93, .ct (intC q))])
    (fun q => (hl.length + 10, .rowx (.slice (some ⟨gb, 0, none⟩) (j + 1) (j + 1)) 94 2 (whs (lnP j (c.map fun x => -x) q))) :: (0, .box 98 (tb0 hR hB hC)) :: (1, .rowx hR 95 1 (hl.map CT.ex)) :: (2, .rowx hB 3 1 (ints (rng j hl.length))) :: (3, .rowx hC 3 1 (ints (rng 0 j))) :: linesB 10 hl zs)
    (fun q => c.length - q) 0 (Nat.zero_le _) (by exact QZ (by rw [lnP_zero]) ⟨rfl, rfl, rfl, rfl, rfl, rfl, trivial⟩) ?_
  intro q hq
  (try dsimp only at hq ⊢)
  have hpl := lnP_len j (c.map fun x => -x) q
  (refine Qy (Qx fun K hK => ?_); refine Qw ilss rfl rfl rfl rfl ?_; refine Qj (hK _ _ (Qz (Qy ?_))); clear hK K)
  refine Q0 rfl (fun h2 => ?_) (fun h2 => ?_)
  · have kq : (q : Int).toNat = q := Int.toNat_natCast _
    have kq2 : (q : Int).toNat * 2 = q * 2 := by omega
    have bq := hc.get q
    have eset := lnP_set j (c.map fun x => -x) q (by omega)
    have eneg : (c.map fun x => -x).getD q 0 = -(c.getD q 0) := by
      have : q < c.length := by omega
      simp [List.getD_eq_getElem?_getD, this]
    rw [eneg] at eset
    generalize lnP j (c.map fun x => -x) q = cur at *
    (refine QU (Qz (Qy (Q2 (Qy (Qx fun K hK => ?_))))); refine Qq rfl rfl rfl ?_; refine Qf rfl rfl rfl (by with_reducible first | exact sInts | exact sNat) (by omega) (ints_at (by omega) (by omega)) rfl ?_; refine Qm rfl rfl rfl (by with_reducible exact lInt) rfl ?_; refine Qv rfl rfl rfl ?_; refine Qv rfl rfl rfl ?_; refine Qj (hK _ _ (Qz ?_)); clear hK K; refine Qx (fun K hK => ?_); refine Qq rfl rfl rfl ?_; refine Qq rfl rfl rfl ?_; refine Qq rfl rfl rfl ?_)
    rw [kq]
    (refine Ops.ineg rfl rfl (by omega) (by omega) rfl ?_)
    refine QX goof (of_ok _ (by omega) (by omega)) rfl rfl rfl rfl ?_
    refine Qi (hl.length + 10) (j + 1) rfl rfl (bget_cons_eq ..) (by rw [whs_len, hpl]) rfl sWhs (by omega) (by omega) rfl ?_
    rw [kq2]
    refine stWhX rfl rfl (bget_cons_eq ..) rfl (by omega) szWh ?_
    rw [bset_cons_eq, eset]
    (refine Qj (hK _ _ (Qz ?_)); clear hK K; refine Qx (fun K hK => ?_); refine Qw (iadd (by omega) (by omega)) rfl rfl rfl rfl ?_; refine Qq rfl rfl rfl ?_; refine Qj (hK _ _ (Q5 ?_)); clear hK K)
    refine Q8 (q + 1) (by omega) (by omega) (by exact QZ rfl ⟨rfl, rfl, rfl, rfl, rfl, by simp only [Int.natCast_add]; rfl, trivial⟩)
  have hq' : q = (c.map fun x => -x).length := by simp; omega
  rw [hq', lnP_all j _ (by simp; omega)]
  generalize hgl : lnOf j (c.map fun x => -x) 0 = gl at *
  (refine Qe (Qz (Qy (Qx fun K hK => ?_))); refine Qq rfl rfl rfl ?_; refine Qq rfl rfl rfl ?_; refine Q1 rfl rfl rfl rfl ?_; refine QV rfl rfl rfl (by with_reducible first | exact fW0 | exact fW1 | exact fT0 | exact fT1 | exact fT2 | exact fT3 | exact fR0 | exact fR1) rfl ?_; refine QJ rfl rfl rfl rfl rfl (by with_reducible first | exact lInt | exact lNat | exact lBool | exact lInts | exact lMat | exact lWhs) rfl ?_; refine Qq rfl rfl rfl ?_)
  refine Xx rfl rfl (by with_reducible exact sMat) rfl rfl rfl ?_
  refine XQ 109 1 rfl rfl ?_
  refine Qh hl.length ((hl ++ [Value.slice (some ⟨gb, 0, none⟩) (j + 1) (j + 1)]).map CT.ex) rfl rfl rfl rfl (by with_reducible exact sMat) (by simp) rfl (by omega) (by omega) (by simp) rfl ?_
  refine Xy 112 1 (hl.length + 1) rfl rfl (by simp) (by omega) (by decide) (fun g1 c1 e1 e2 => ?_)
  (refine Q1 rfl rfl rfl rfl ?_; refine QV rfl rfl rfl (by with_reducible first | exact fW0 | exact fW1 | exact fT0 | exact fT1 | exact fT2 | exact fT3 | exact fR0 | exact fR1) rfl ?_; refine Qn rfl rfl rfl rfl rfl (by with_reducible first | exact zInt | exact zInts | exact zMat | exact zBoolW) (Nat.le_of_ble_eq_true rfl) ?_; refine Qj (hK _ _ (Qz (Qy ?_))); clear hK K; refine Qx (fun K hK => ?_); refine Qq rfl rfl rfl ?_; refine Qv rfl rfl rfl ?_; refine Qj (hK _ _ (Qz (Q3 ?_))); clear hK K)
  refine Fin.retMO ⟨Value.slice (some ⟨g1, 0, none⟩) (hl.length + 1) c1, hB, hC, hl ++ [Value.slice (some ⟨gb, 0, none⟩) (j + 1) (j + 1)], zs ++ [gl], rng j hl.length, rng 0 j, 1⟩ rfl rfl rfl (step_B2 (by omega)) ⟨by rw [hzs, hgl], by rw [hi'], rfl, rfl, by simp; omega, fun h hh => ?_, ?_, by rw [← hi']; exact hHB, hH⟩
  · rcases List.mem_append.1 hh with hh | hh
    · exact hlines h hh
    · exact ⟨gb, by simpa using hh⟩
  · rw [← hi']; exact .inr ⟨by omega, g1, c1, e1, e2, rfl⟩
end Go.Proofs.YtdhmbgogmoaofaaGreat
namespace Go.Own
open Go.RowKit
variable {X : Ctx} {L : AL} {B : BL} {ops : Array Oper} {K : Act → World → Prop} {r : Pl} {k : Kd}
  {x y z : Operand} {d : Nat} {t t2 t' : TypeId} {pos : String} {af : Array Edge} {g : Option (Nat × Bool)}
abbrev kh (gb o m c : Nat) : Value := .slice (some ⟨gb, o, none⟩) m c
theorem Ops.cutKh {el n bytes gb o m c : Nat} {zv : Value} {kk : IntKind} {j : Int} (q : Nat) (hg : gd ops L g = some true) (hx : ev L x = some (.ct (.ex (kh gb o m c)))) (hy : ev L y = some (.ct (.ex (.int kk j)))) (hj : j = (q : Int)) (hT : SlcT X.P t el n bytes zv) (h1 : q ≤ c) (hn : Nat.blt d X.n = true)
    (h : Ops X ops r ((d, .ct (.ex (kh gb o q c))) :: L) B K) : Ops X ops (.cons ⟨some d, .slice t x none (some y) none, t', pos, af, g⟩ k r) L B K :=
  XX (s := .ct (.ex (kh gb o q c))) hg rfl hn (fun a ρ w hI => by
    refine ⟨kh gb o q c, fun w' _ => ?_, rfl⟩
    obtain ⟨nf, i1, i2, _⟩ := hT.inf
    have he := elem_eq hT.und
    have hu : X.P.underlying t = some (.slice (X.P.elem t)) := by rw [he]; exact hT.und
    show (do pure (Next.value (← Instr.sliceAt t (a.eval x) (Option.map a.eval none) ((some y).map a.eval) (Option.map a.eval none))) : Sem Next).run X.P w' = _
    simp only [Option.map_some, Option.map_none, hI.evx hx, hI.evx hy, hj]
    refine run_v ?_
    simp only [Instr.sliceAt, Sem.run_bind, run_underlying hT.und, Result.andThen_ok]
    rw [run_slice_h (P := X.P) (w := w') t _ m c hu kk q (by omega) (by omega)]
    rw [he, run_sizeOf i1]
    simp [sliced, Addr.add]) h
theorem Ops.cutKl {el n bytes gb o m c : Nat} {zv : Value} {kk : IntKind} {j : Int} (q : Nat) (hg : gd ops L g = some true) (hx : ev L x = some (.ct (.ex (kh gb o m c)))) (hy : ev L y = some (.ct (.ex (.int kk j)))) (hj : j = (q : Int)) (hT : SlcT X.P t el n bytes zv) (h1 : q ≤ m) (hn : Nat.blt d X.n = true)
    (h : Ops X ops r ((d, .ct (.ex (kh gb (if c = q then o else o + q * n) (m - q) (c - q)))) :: L) B K) : Ops X ops (.cons ⟨some d, .slice t x (some y) none none, t', pos, af, g⟩ k r) L B K :=
  XX (s := .ct (.ex (kh gb (if c = q then o else o + q * n) (m - q) (c - q)))) hg rfl hn (fun a ρ w hI => by
    refine ⟨_, fun w' _ => ?_, rfl⟩
    obtain ⟨nf, i1, i2, _⟩ := hT.inf
    have he := elem_eq hT.und
    have hu : X.P.underlying t = some (.slice (X.P.elem t)) := by rw [he]; exact hT.und
    show (do pure (Next.value (← Instr.sliceAt t (a.eval x) ((some y).map a.eval) (Option.map a.eval none) (Option.map a.eval none))) : Sem Next).run X.P w' = _
    simp only [Option.map_some, Option.map_none, hI.evx hx, hI.evx hy, hj]
    refine run_v ?_
    simp only [Instr.sliceAt, Sem.run_bind, run_underlying hT.und, Result.andThen_ok]
    rw [run_slice_l (P := X.P) (w := w') t _ m c hu kk q (by omega) (by omega)]
    rw [he, run_sizeOf i1, i2]
    simp only [sliced, Result.andThen_ok, Int.toNat_natCast]
    by_cases hc : c = q
    · simp [hc]
    · simp [hc, add_cell]) h
theorem Ops.cutKlh {el n bytes gb o m c : Nat} {zv : Value} {kk kk2 : IntKind} {j j2 : Int} (p q : Nat) (hg : gd ops L g = some true) (hx : ev L x = some (.ct (.ex (kh gb o m c)))) (hy : ev L y = some (.ct (.ex (.int kk j)))) (hz : ev L z = some (.ct (.ex (.int kk2 j2)))) (hj : j = (p : Int)) (hj2 : j2 = (q : Int)) (hT : SlcT X.P t el n bytes zv) (h1 : p ≤ q) (h2 : q ≤ c) (hn : Nat.blt d X.n = true)
    (h : Ops X ops r ((d, .ct (.ex (kh gb (if c = p then o else o + p * n) (q - p) (c - p)))) :: L) B K) : Ops X ops (.cons ⟨some d, .slice t x (some y) (some z) none, t', pos, af, g⟩ k r) L B K :=
  XX (s := .ct (.ex (kh gb (if c = p then o else o + p * n) (q - p) (c - p)))) hg rfl hn (fun a ρ w hI => by
    refine ⟨_, fun w' _ => ?_, rfl⟩
    obtain ⟨nf, i1, i2, _⟩ := hT.inf
    have he := elem_eq hT.und
    have hu : X.P.underlying t = some (.slice (X.P.elem t)) := by rw [he]; exact hT.und
    show (do pure (Next.value (← Instr.sliceAt t (a.eval x) ((some y).map a.eval) ((some z).map a.eval) (Option.map a.eval none))) : Sem Next).run X.P w' = _
    simp only [Option.map_some, Option.map_none, hI.evx hx, hI.evx hy, hI.evx hz, hj, hj2]
    refine run_v ?_
    simp only [Instr.sliceAt, Sem.run_bind, run_underlying hT.und, Result.andThen_ok]
    rw [run_slice_lh (P := X.P) (w := w') t _ m c hu kk kk2 p q (by omega) (by omega) (by omega)]
    rw [he, run_sizeOf i1, i2]
    simp only [sliced, Result.andThen_ok, Int.toNat_natCast]
    by_cases hc : c = p
    · simp [hc]
    · simp [hc, add_cell]) h
theorem Ops.cutK3 {el n bytes gb o m c : Nat} {zv : Value} {kk kk2 kk3 : IntKind} {j j2 j3 : Int} {u : Operand} (hg : gd ops L g = some true) (hx : ev L x = some (.ct (.ex (kh gb o m c)))) (hy : ev L y = some (.ct (.ex (.int kk j)))) (hz : ev L z = some (.ct (.ex (.int kk2 j2)))) (hu : ev L u = some (.ct (.ex (.int kk3 j3)))) (hT : SlcT X.P t el n bytes zv) (h0 : 0 ≤ j) (h1 : j ≤ j2) (h2 : j2 ≤ j3) (h3 : j3 ≤ c) (hn : Nat.blt d X.n = true)
    (h : Ops X ops r ((d, .any) :: L) B K) : Ops X ops (.cons ⟨some d, .slice t x (some y) (some z) (some u), t', pos, af, g⟩ k r) L B K :=
  XX (s := .any) hg rfl hn (fun a ρ w hI => by
    refine ⟨sliced (some ⟨gb, o, none⟩) j.toNat j2.toNat j3.toNat n, fun w' _ => ?_, trivial⟩
    obtain ⟨nf, i1, i2, _⟩ := hT.inf
    have he := elem_eq hT.und
    have hu' : X.P.underlying t = some (.slice (X.P.elem t)) := by rw [he]; exact hT.und
    show (do pure (Next.value (← Instr.sliceAt t (a.eval x) ((some y).map a.eval) ((some z).map a.eval) ((some u).map a.eval))) : Sem Next).run X.P w' = _
    simp only [Option.map_some, hI.evx hx, hI.evx hy, hI.evx hz, hI.evx hu]
    refine run_v ?_
    simp only [Instr.sliceAt, Sem.run_bind, run_underlying hT.und, Result.andThen_ok]
    rw [run_slice_lhm (P := X.P) (w := w') t _ m c hu' kk kk2 kk3 j j2 j3 h0 h1 h2 (by omega)]
    rw [he, run_sizeOf i1, i2]
    rfl) h
theorem Ops.lenKv {el : Nat} {A : Option Addr} {m c : Nat} (hg : gd ops L g = some true) (hx : ev L x = some (.ct (.ex (.slice A m c)))) (hu : X.P.underlying t = some (.slice el)) (hn : Nat.blt d X.n = true) (h : Ops X ops r ((d, .ct (.ex (.int .i64 m))) :: L) B K) :
    Ops X ops (.cons ⟨some d, .call { callee := .builtin .len, args := #[x], argTypes := #[t] }, t', pos, af, g⟩ k r) L B K :=
  XX (s := .ct (.ex (.int .i64 m))) hg rfl hn (fun a ρ w hI => by
    refine ⟨_, fun w' _ => run_builtin (args := [x]) ?_, rfl⟩
    intro cs
    simp only [List.map_cons, List.map_nil, hI.evx hx]
    exact run_lenSlice hu A m c cs w') h
theorem Ops.capKv {el : Nat} {A : Option Addr} {m c : Nat} (hg : gd ops L g = some true) (hx : ev L x = some (.ct (.ex (.slice A m c)))) (hu : X.P.underlying t = some (.slice el)) (hn : Nat.blt d X.n = true) (h : Ops X ops r ((d, .ct (.ex (.int .i64 c))) :: L) B K) :
    Ops X ops (.cons ⟨some d, .call { callee := .builtin .cap, args := #[x], argTypes := #[t] }, t', pos, af, g⟩ k r) L B K :=
  XX (s := .ct (.ex (.int .i64 c))) hg rfl hn (fun a ρ w hI => by
    refine ⟨_, fun w' _ => run_builtin (args := [x]) ?_, rfl⟩
    intro _
    simp only [List.map_cons, List.map_nil, hI.evx hx]
    refine run_v ?_
    simp [Builtin.cap_, run_underlying hu, goInt]) h
theorem Is.rowK {a : Act} {ρ : Nat → Value} {w : World} (hI : Is X L B a ρ w) {i gb m c el n : Nat} {cs : List CT} (hi : bget B i = some (.rowx (kh gb 0 m c) el n cs)) (hl : cs.length = m * n) (hp : 0 < n) :
    ρ i = kh gb 0 m c ∧ ∃ (vs : List Value) (cur : Array Value), cells (Sof X B ρ) w cs vs ∧ vs.length = m * n ∧ w.heap[gb]? = some (.cells cur el (0, 0)) ∧ m ≤ c ∧ c ≤ maxLen ∧ cur.size = c * n ∧ cur.toList.take (m * n) = vs := by
  obtain ⟨hρ, m', vs, how, hc⟩ := (hI.ent i _ hi).1
  have hlv := hc.length
  have h1 := how.1
  rw [hlv, hl] at h1
  have hmm : m = m' := Nat.eq_of_mul_eq_mul_right hp h1
  subst hmm
  rcases how.2 with ⟨h2, _⟩ | ⟨gb', cap, cur, h2, _, hg, hnc, hcm, hcz, htk⟩
  · have h3 := hρ.symm.trans h2
    cases h3
  · have h3 := hρ.symm.trans h2
    injection h3 with e1 e2 e3
    injection e1 with e1
    injection e1 with e1
    subst e1; subst e3
    exact ⟨hρ, vs, cur, hc, by rw [hlv, hl], hg, hnc, hcm, hcz, htk⟩
theorem Ops.appIn {el n bytes gb m c oy q cq : Nat} {zv : Value} {cs : List CT} (e i j : Nat) (cs' : List CT) (hg : gd ops L g = some true) (hx : ev L x = some (.ct (.ex (kh gb 0 i c)))) (hy : ev L y = some (.ct (.ex (kh gb oy q cq)))) (hoy : q = 0 ∨ oy = j * n) (hi : bget B e = some (.rowx (kh gb 0 m c) el n cs)) (hl : cs.length = m * n)
    (h1 : i + q ≤ m) (h2 : j + q ≤ m) (hT : SlcT X.P t el n bytes zv) (ho : ones cs = true) (hcs : cs' = cs.take (i * n) ++ (cs.drop (j * n)).take (q * n)) (hn : Nat.blt d X.n = true)
    (h : Ops X ops r ((d, .ct (.ex (kh gb 0 (i + q) c))) :: killL e L) (bset B e (.rowx (kh gb 0 (i + q) c) el n cs')) K) : Ops X ops (.cons ⟨some d, .call { callee := .builtin .append, args := #[x, y], argTypes := #[t, t] }, t', pos, af, g⟩ .any r) L B K := fun a ρ w hI => by
  show wpO _ _ _ _ _ _
  unfold wpO
  rw [if_pos (gd_spec (o := ⟨some d, _, t', pos, af, g⟩) hI hg)]
  obtain ⟨hρ, vs, cur, hc, hlv, hgb, hmc, hcm, hcz, htk⟩ := hI.rowK hi hl hT.pos
  obtain ⟨nf, i1, i2, i3, i4⟩ := hT.inf
  have hmn : (i + q) * n ≤ m * n := Nat.mul_le_mul_right _ h1
  have hjn : (j + q) * n ≤ m * n := Nat.mul_le_mul_right _ h2
  have hcn : m * n ≤ c * n := Nat.mul_le_mul_right _ hmc
  rw [Nat.add_mul] at hmn hjn
  have hcl : cur.toList.length = c * n := by simpa using hcz
  have hnl : ((vs.drop (j * n)).take (q * n)).length = q * n := by rw [List.length_take, List.length_drop, hlv]; omega
  have hone : ∀ u ∈ (vs.drop (j * n)).take (q * n), u.oneCell' = true := fun u hu => ones_cells ho hc u (List.mem_of_mem_drop (List.mem_of_mem_take hu))
  have hnews : ∀ p u, ((vs.drop (j * n)).take (q * n))[p]? = some u → w.cell? ((⟨gb, oy, none⟩ : Addr).add p) = some u := fun p u hu => by
    rcases hoy with h0 | h0
    · have h9 : (vs.drop (j * n)).take (q * n) = [] := List.eq_nil_of_length_eq_zero (by rw [hnl, h0, Nat.zero_mul])
      rw [h9] at hu; simp at hu
    · rw [h0]
      exact take_cells (by rw [hlv]; exact htk) hgb p u hu
  generalize hN : (vs.drop (j * n)).take (q * n) = news at *
  have hrun := run_append_room (P := X.P) w t t' el nf hT.und i1 gb i c cur hgb ⟨gb, oy, none⟩ q cq news (by rw [i2]; exact hnl) hnews hone (by omega) (by rw [i2, hnl, ← Array.length_toList, hcl]; omega)
  rw [i2] at hrun
  unfold Oper.wp
  rw [show (execOp a.eval ⟨some d, .call { callee := .builtin .append, args := #[x, y], argTypes := #[t, t] }, t', pos, af, g⟩).run X.P w = .ok (.value (kh gb 0 (i + q) c)) (w.setRow gb (cur.toList.take (i * n) ++ news ++ cur.toList.drop (i * n + news.length)).toArray) from
    run_builtin (args := [x, y]) (fun _ => by simp only [List.map_cons, List.map_nil, hI.evx hx, hI.evx hy]; exact run_v hrun)]
  show wpX _ _ _ _ (a.put (some d) _) _
  have hvt : vs.take (i * n) = cur.toList.take (i * n) := by rw [← htk, List.take_take, Nat.min_eq_left (by omega)]
  have hcc : cells (Sof X B ρ) w cs' (vs.take (i * n) ++ news) := by rw [hcs]; exact (hc.take _).append (by rw [← hN]; exact (hc.drop _).take _)
  have hW := Is.write (i := e) (v := kh gb 0 (i + q) c) (e' := .rowx (kh gb 0 (i + q) c) el n cs') (w' := w.setRow gb (cur.toList.take (i * n) ++ news ++ cur.toList.drop (i * n + news.length)).toArray) (hI.killL e) hi rfl rfl rfl (by simp)
    (fun p hp hne => setRow_other _ _ _ _ (fun e => hne (by rw [e, hρ]; rfl))) (.inl (by rw [hρ]; rfl))
    (fun S' hk => ⟨rfl, i + q, vs.take (i * n) ++ news, ⟨by rw [List.length_append, List.length_take, hnl, hlv, Nat.add_mul]; omega, .inr ⟨gb, c, _, rfl, Nat.zero_le _, setRow_heap w gb cur _ el _ hgb, by omega, hcm, by
      simp only [List.size_toArray, List.length_append, List.length_take, List.length_drop, hnl, hcl]; omega, by
      rw [List.append_assoc, ← List.append_assoc, hvt]
      have : (cur.toList.take (i * n) ++ news).length = (i + q) * n := by rw [List.length_append, List.length_take, hnl, hcl, Nat.add_mul]; omega
      rw [← this]; exact List.take_left⟩⟩, hcc.mono hk⟩) (.inr (noN_killL e L)) (.inr rfl)
  exact h _ _ _ ((hW.bext (bget_bset hi)).put (s := .ct (.ex _)) (lt_of_blt hn) rfl)
theorem Ops.clearK {el n bytes gb m c oy q cq : Nat} {zv : Value} {cs : List CT} (e : Nat) (hg : gd ops L g = some true) (hx : ev L x = some (.ct (.ex (kh gb oy q cq)))) (hoy : q = 0 ∨ oy = m * n) (hi : bget B e = some (.rowx (kh gb 0 m c) el n cs)) (hl : cs.length = m * n) (h1 : m + q ≤ c) (hT : SlcT X.P t el n bytes zv) (hz1 : ∀ v ∈ zv.cells.toList, v.oneCell' = true)
    (h : Ops X ops r L (bset B e (.rowx (kh gb 0 m c) el n cs)) K) : Ops X ops (.cons ⟨none, .call { callee := .builtin .clear, args := #[x], argTypes := #[t] }, t', pos, af, g⟩ .any r) L B K := fun a ρ w hI => by
  show wpO _ _ _ _ _ _
  unfold wpO
  rw [if_pos (gd_spec (o := ⟨none, _, t', pos, af, g⟩) hI hg)]
  obtain ⟨hρ, vs, cur, hc, hlv, hgb, hmc, hcm, hcz, htk⟩ := hI.rowK hi hl hT.pos
  obtain ⟨nf, i1, i2, i3, i4⟩ := hT.inf
  have hcn : (m + q) * n ≤ c * n := Nat.mul_le_mul_right _ h1
  rw [Nat.add_mul] at hcn
  have hcl : cur.toList.length = c * n := by simpa using hcz
  have hzl : (Builtin.zeroCells zv.cells q).toList.length = q * n := by rw [Array.length_toList, size_zeroCells, hT.zs]
  have hone : ∀ u ∈ (Builtin.zeroCells zv.cells q).toList, u.oneCell' = true := fun u hu => by
    rw [zero_flat] at hu
    obtain ⟨l, hl, hu⟩ := List.mem_flatten.1 hu
    rw [List.eq_of_mem_replicate hl] at hu
    exact hz1 u hu
  have hrun : ∃ cur' : Array Value, (Builtin.clear_ #[t] t' #[kh gb oy q cq]).run X.P w = .ok (.tuple #[]) (w.setRow gb cur') ∧ cur'.size = c * n ∧ cur'.toList.take (m * n) = vs := by
    rcases Nat.eq_zero_or_pos q with h0 | h0
    · subst h0
      refine ⟨cur, ?_, hcz, htk⟩
      rw [setRow_self w gb cur el (0, 0) hgb]
      simp [Builtin.clear_, run_underlying hT.und]
    · have hoy' : oy = m * n := by omega
      subst hoy'
      have hst := run_storeCells_at (P := X.P) gb (m * n) el (Builtin.zeroCells zv.cells q).toList 0 cur w hgb (by rw [hzl, ← Array.length_toList, hcl]; omega) hone
      simp only [Nat.add_zero] at hst
      refine ⟨(cur.toList.take (m * n) ++ (Builtin.zeroCells zv.cells q).toList ++ cur.toList.drop (m * n + (Builtin.zeroCells zv.cells q).toList.length)).toArray, ?_, ?_, ?_⟩
      rotate_left
      · show (cur.toList.take (m * n) ++ (Builtin.zeroCells zv.cells q).toList ++ cur.toList.drop (m * n + (Builtin.zeroCells zv.cells q).toList.length)).toArray.size = _
        simp only [List.size_toArray, List.length_append, List.length_take, List.length_drop, hzl, hcl]; omega
      · show ((cur.toList.take (m * n) ++ (Builtin.zeroCells zv.cells q).toList ++ cur.toList.drop (m * n + (Builtin.zeroCells zv.cells q).toList.length)).toArray.toList).take (m * n) = _
        rw [List.append_assoc, htk, ← hlv]; exact List.take_left
      · obtain ⟨q', rfl⟩ : ∃ q', q = q' + 1 := ⟨q - 1, by omega⟩
        have hz : (zeroValue el).run X.P w = .ok zv w := run_zeroValue (by rw [i1]; simp [i4]) w
        simp only [Builtin.clear_, List.getElem?_toArray, List.getElem?_cons_zero, Sem.run_bind, Sem.run_pure, Result.andThen_ok, run_underlying hT.und, hz, hst]
  obtain ⟨cur', hrun, hs1, hs2⟩ := hrun
  unfold Oper.wp
  rw [show (execOp a.eval ⟨none, .call { callee := .builtin .clear, args := #[x], argTypes := #[t] }, t', pos, af, g⟩).run X.P w = .ok (.value (.tuple #[])) (w.setRow gb cur') from
    run_builtin (args := [x]) (fun _ => by simp only [List.map_cons, List.map_nil, hI.evx hx]; exact run_v hrun)]
  show wpX _ _ _ _ (a.put none _) _
  rw [put_none]
  have hW := Is.write (i := e) (v := ρ e) (e' := .rowx (kh gb 0 m c) el n cs) (w' := w.setRow gb cur') hI hi rfl rfl rfl (by simp)
    (fun p hp hne => setRow_other _ _ _ _ (fun e => hne (by rw [e, hρ]; rfl))) (.inl rfl)
    (fun S' hk => ⟨hρ, m, vs, ⟨hlv, .inr ⟨gb, c, cur', hρ, Nat.zero_le _, setRow_heap w gb cur _ el _ hgb, hmc, hcm, hs1, hs2⟩⟩, hc.mono hk⟩) (.inl rfl) (.inr rfl)
  exact h _ _ _ (hW.bext (bget_bset hi))
end Go.Own
namespace Go.Own
open Go.RowKit
variable {X : Ctx} {L : AL} {B : BL} {ops : Array Oper} {K : Act → World → Prop} {r : Pl} {k : Kd}
  {x y z : Operand} {d : Nat} {t t2 t' : TypeId} {pos : String} {af : Array Edge} {g : Option (Nat × Bool)}
theorem run_append_grow_zeros {P : Program} (w : World) (t tn ty e : TypeId) (i : TypeInfo) (z : Value) (k kn : IntKind) (ht : P.underlying t = some (.slice e)) (htn : P.underlying tn = some (.int kn)) (hi : P.info? e = some i) (hz : i.zero = some z)
    (b : Addr) (sLen sCap : Nat) (olds : List Value) (hlo : olds.length = sLen * i.size) (holds : ∀ j v, olds[j]? = some v → w.cell? (b.add j) = some v)
    (n : Nat) (h0 : 0 < n) (hs : 0 < i.size) (hg : sCap < sLen + n) (h63 : ((sLen + n : Nat) : Int) ≤ 9223372036854775807) (h48 : n * i.bytes ≤ 281474976710656) (hfit : Builtin.nextslicecap (sLen + n) sCap * i.bytes ≤ 281474976710656) :
    (Builtin.append_ #[t, tn] ty #[.slice (some b) sLen sCap, .int k n]).run P w =
      .ok (.slice (some ⟨w.heap.size, 0, none⟩) (sLen + n) (grownCap w (sLen + n) sCap e)) (w.drew.alloc (.cells (olds.toArray ++ Builtin.zeroCells z.cells n ++ Builtin.zeroCells z.cells (grownCap w (sLen + n) sCap e - (sLen + n))) e)) := by
  have hw : IntKind.i64.wrap (n : Int) = n := by rw [IntKind.wrap_i64]; omega
  have hn : ¬ (sLen + n ≤ sCap) := by omega
  have h63' : ¬ (9223372036854775807 < ((sLen : Int) + (n : Int))) := by omega
  have h48' : ¬ (281474976710656 < Builtin.nextslicecap (sLen + n) sCap * i.bytes) := by omega
  have h48i : ¬ (281474976710656 < (n : Int) * (i.bytes : Int)) := by
    rw [← Int.natCast_mul]
    omega
  have hneg : ¬ ((n : Int) < 0) := by omega
  have hns : ¬ (n * i.size = 0) := Nat.mul_ne_zero (by omega) (by omega)
  have hfo := run_firstCells_some (P := P) w.drew i.size sLen b sLen sCap olds hlo (by simpa using holds)
  simp [Builtin.append_, run_underlying ht, run_underlying htn, sizeOf, typeInfo, zeroValue, hi, hz, asInt, asIntOf, hw, hn, hneg, hns, h63', h48', h48i, Question.forced, hfo, newRow, grownCap]
theorem Ops.appZK {el n bytes gb m c i tn : Nat} {zv : Value} {kk : IntKind} {j : Int} {cs : List CT} (e b q : Nat) (hg : gd ops L g = some true) (hx : ev L x = some (.ct (.ex (kh gb 0 i c)))) (hy : ev L y = some (.ct (.ex (.int .i64 j)))) (hj : j = (q : Int)) (hi : bget B e = some (.rowx (kh gb 0 m c) el n cs)) (hl : cs.length = m * n)
    (him : i ≤ m) (hq : 0 < q) (hc : c < i + q) (hT : SlcT X.P t el n bytes zv) (htn : X.P.underlying tn = some (.int kk)) (hb : (i + q) * bytes ≤ 140737488355328) (hmx : i + q ≤ 140737488355328) (hN : noN b L = true) (hB : bget B b = none) (hn : Nat.blt d X.n = true)
    (h : Ops X ops r ((d, .own b) :: L) ((b, .row el n (cs.take (i * n) ++ zinit zv q)) :: B) K) : Ops X ops (.cons ⟨some d, .call { callee := .builtin .append, args := #[x, y], argTypes := #[t, tn] }, t', pos, af, g⟩ .any r) L B K :=
  Ops.mkE (k := .any) rfl hg rfl hn hN hB (fun a ρ w hI => by
    obtain ⟨hρ, vs, cur, hcl, hlv, hgb, hmc, hcm, hcz, htk⟩ := hI.rowK hi hl hT.pos
    obtain ⟨nf, i1, i2, i3, i4⟩ := hT.inf
    have hin : i * n ≤ m * n := Nat.mul_le_mul_right _ him
    have hbq : q * bytes ≤ (i + q) * bytes := Nat.mul_le_mul_right _ (by omega)
    have hol : (vs.take (i * n)).length = i * n := by rw [List.length_take, hlv]; omega
    have holds : ∀ p u, (vs.take (i * n))[p]? = some u → w.cell? ((⟨gb, 0, none⟩ : Addr).add p) = some u := fun p u hu => by
      have := take_cells (vs := vs) (q := i * n) (o := 0) (by rw [hlv]; exact htk) hgb p u (by simpa using hu)
      exact this
    have hr := run_append_grow_zeros (P := X.P) w t tn t' el nf zv .i64 kk hT.und htn i1 i4 ⟨gb, 0, none⟩ i c (vs.take (i * n)) (by rw [i2]; exact hol) holds q hq (by rw [i2]; exact hT.pos) hc (by omega) (by rw [i3]; omega) (by rw [i3]; exact growslice_fits hc hb)
    refine ⟨_, _, run_builtin (args := [x, y]) (fun _ => by
      simp only [List.map_cons, List.map_nil, hI.evx hx, hI.evx hy, hj]
      exact run_v hr), ((Below.refl _ _).drew).alloc (Nat.le_refl _) _, fun g hg => ?_, fun S' hk => ⟨i + q, vs.take (i * n) ++ (List.replicate q zv.cells.toList).flatten, ?_, ?_⟩⟩
    · injection hg with hg; subst hg; exact Nat.le_refl _
    · have hge := grownCap_ge w (i + q) c el
      have hlen : ∀ q, (List.replicate q zv.cells.toList).flatten.length = q * n := fun q => by
        rw [flatten_length (k := n) (fun e he => by rw [List.eq_of_mem_replicate he]; simpa using hT.zs)]; simp
      refine ⟨by rw [List.length_append, hol, hlen, Nat.add_mul], .inr ⟨w.heap.size, grownCap w (i + q) c el, _, rfl, Nat.zero_le _, heap_alloc_new w.drew _, hge, grownCap_le_maxLen w (i + q) c el (by simp only [maxLen]; omega), ?_, ?_⟩⟩
      · rw [← Array.length_toList, Array.toList_append, Array.toList_append, zero_flat, zero_flat, List.length_append, List.length_append, hlen, hlen, List.toList_toArray, hol, ← Nat.add_mul, ← Nat.add_mul]; congr 1; omega
      · rw [Array.toList_append, Array.toList_append, zero_flat, List.toList_toArray]
        have : (vs.take (i * n) ++ (List.replicate q zv.cells.toList).flatten).length = (i + q) * n := by rw [List.length_append, hol, hlen, Nat.add_mul]
        rw [← this]; exact List.take_left
    · have h1 := (hcl.take (i * n)).append (cells_ex (S := Sof X B ρ) (w := w) (List.replicate q zv.cells.toList).flatten)
      rw [zinit_map]
      exact h1.mono hk) h
theorem Ops.copyG {el n bytes gb m c o dl dc : Nat} {zv : Value} {cs : List CT} (e lo q : Nat) (ds cs' : List CT) (hg : gd ops L g = some true) (hx : ev L x = some (.ct (.ex (kh gb o dl dc)))) (ho : o = lo * n) (hi : bget B e = some (.rowx (kh gb 0 m c) el n cs)) (hl : cs.length = m * n) (hq : q ≤ dl) (hlo : lo + q ≤ m) (hT : SlcT X.P t el n bytes zv)
    (hy : ∀ a ρ w, Is X L B a ρ w → ∃ A cc us, a.eval y = .slice (some A) q cc ∧ us.length = q * n ∧ cells (Sof X B ρ) w ds us ∧ ∀ j u, us[j]? = some u → w.cell? (A.add j) = some u) (hone : ones ds = true) (hcs : cs' = spl cs (lo * n) ds) (hn : Nat.blt d X.n = true)
    (h : Ops X ops r ((d, .any) :: L) (bset B e (.rowx (kh gb 0 m c) el n cs')) K) : Ops X ops (.cons ⟨some d, .call { callee := .builtin .copy, args := #[x, y], argTypes := #[t, t2] }, t', pos, af, g⟩ .any r) L B K := fun a ρ w hI => by
  show wpO _ _ _ _ _ _
  unfold wpO
  rw [if_pos (gd_spec (o := ⟨some d, _, t', pos, af, g⟩) hI hg)]
  obtain ⟨hρ, vs, cur, hc, hlv, hgb, hmc, hcm, hcz, htk⟩ := hI.rowK hi hl hT.pos
  obtain ⟨nf, i1, i2, i3, i4⟩ := hT.inf
  obtain ⟨A, cc, us, hA, hul, huc, hum⟩ := hy a ρ w hI
  have hcl : cur.toList.length = c * n := by simpa using hcz
  have hmn : (lo + q) * n ≤ m * n := Nat.mul_le_mul_right _ hlo
  have hcn : m * n ≤ c * n := Nat.mul_le_mul_right _ hmc
  rw [Nat.add_mul] at hmn
  have hds : ds.length = q * n := by rw [← huc.length, hul]
  have hones : ∀ u ∈ us, u.oneCell' = true := ones_cells hone huc
  have hload : (loadCells A (q * n)).run X.P w = .ok us.toArray w := by
    have := run_loadCells_list (P := X.P) w A us hum
    rwa [hul] at this
  have hstore : (storeCells ⟨gb, lo * n, none⟩ us).run X.P w = .ok () (w.setRow gb (cur.toList.take (lo * n) ++ us ++ cur.toList.drop (lo * n + us.length)).toArray) := by
    have := run_storeCells_at (P := X.P) gb (lo * n) el us 0 cur w hgb (by rw [hul, ← Array.length_toList, hcl]; omega) hones
    simpa using this
  have hrun : (execOp a.eval ⟨some d, .call { callee := .builtin .copy, args := #[x, y], argTypes := #[t, t2] }, t', pos, af, g⟩).run X.P w = .ok (.value (goInt q)) (w.setRow gb (cur.toList.take (lo * n) ++ us ++ cur.toList.drop (lo * n + us.length)).toArray) :=
    run_builtin (args := [x, y]) (fun _ => by
      simp only [List.map_cons, List.map_nil, hI.evx hx, hA]
      refine run_v ?_
      have hmin : Nat.min q dl = q := Nat.min_eq_left hq
      simp [Builtin.copy_, run_underlying hT.und, Builtin.lenOf, hmin, run_sizeOf i1, i2, Builtin.firstCells, hload, hstore, ho])
  unfold Oper.wp
  rw [hrun]
  show wpX _ _ _ _ (a.put (some d) (goInt q)) _
  have hW := Is.write (i := e) (v := ρ e) (e' := (Ent.rowx (kh gb 0 m c) el n cs).putc (lo * n) ds) (w' := w.setRow gb (cur.toList.take (lo * n) ++ us ++ cur.toList.drop (lo * n + us.length)).toArray) hI hi rfl rfl rfl (by simp)
    (fun p hp hne => setRow_other _ _ _ _ (fun e => hne (by rw [e, hρ]; rfl))) (.inl rfl) (fun S' hk => Ent.put_ok (hI.ent e _ hi).1 (by rw [hρ]; rfl) hgb huc (by rw [hds]; show _ ≤ cs.length; rw [hl]; omega) hk) (.inl rfl) (.inr rfl)
  have hpc : (Ent.rowx (kh gb 0 m c) el n cs).putc (lo * n) ds = .rowx (kh gb 0 m c) el n cs' := by rw [hcs]; rfl
  rw [hpc] at hW
  exact h _ _ _ ((hW.bext (bget_bset hi)).put (s := .any) (lt_of_blt hn) trivial)
theorem src_fr {n : Nat} {es : List (List CT)} (hy : ev L y = some (.ct (.fr (sliceT n es)))) (hne : es ≠ []) : ∀ a ρ w, Is X L B a ρ w → ∃ A cc us, a.eval y = .slice (some A) es.length cc ∧ us.length = es.length * n ∧ cells (Sof X B ρ) w es.flatten us ∧ ∀ j u, us[j]? = some u → w.cell? (A.add j) = some u := fun a ρ w hI => by
  obtain ⟨A, c, h1, h2, h3, h4, h5⟩ := hI.ev hy
  obtain ⟨b, o, rfl, hS, hb, us, hc, hm⟩ := h5 hne
  exact ⟨_, c, us, h1, by rw [hc.length, flatten_length h4], hc, fun j u hu => by rw [add_cell]; exact hm j u hu⟩
theorem src_kh {gb m c o q qc el n bytes tt : Nat} {zv : Value} {cs : List CT} (e lo : Nat) (hy : ev L y = some (.ct (.ex (kh gb o q qc)))) (ho : o = lo * n) (hi : bget B e = some (.rowx (kh gb 0 m c) el n cs)) (hl : cs.length = m * n) (hlo : lo + q ≤ m) (hT : SlcT X.P tt el n bytes zv) :
    ∀ a ρ w, Is X L B a ρ w → ∃ A cc us, a.eval y = .slice (some A) q cc ∧ us.length = q * n ∧ cells (Sof X B ρ) w ((cs.drop (lo * n)).take (q * n)) us ∧ ∀ j u, us[j]? = some u → w.cell? (A.add j) = some u := fun a ρ w hI => by
  obtain ⟨hρ, vs, cur, hc, hlv, hgb, hmc, hcm, hcz, htk⟩ := hI.rowK hi hl hT.pos
  have hmn : (lo + q) * n ≤ m * n := Nat.mul_le_mul_right _ hlo
  rw [Nat.add_mul] at hmn
  refine ⟨⟨gb, o, none⟩, qc, (vs.drop (lo * n)).take (q * n), hI.evx hy, by rw [List.length_take, List.length_drop, hlv]; omega, (hc.drop _).take _, fun j u hu => ?_⟩
  rw [ho]
  exact take_cells (by rw [hlv]; exact htk) hgb j u hu
theorem Ops.callRO {f : FuncId} {args : List Operand} {tys : Array TypeId} {As : List CT} {u : Value} (i : Nat) {e : Ent} (hgo : InGo X.P f) (hok : Ok X.P f As (.ex u)) (hg : gd ops L g = some true) (hi : bget B i = some e) (hargs : ∀ a ρ w, Is X L B a ρ w → cells (Sof X (bdel B i) ρ) w As (args.map a.eval)) (hk : k.mk = true) (hn : Nat.blt d X.n = true)
    (h : Ops X ops r ((d, .ct (.ex u)) :: L) B K) : Ops X ops (.cons ⟨some d, .call { callee := .value (.func f), args := args.toArray, argTypes := tys }, t, pos, af, g⟩ k r) L B K := fun a ρ w hI => by
  refine wpX_makes k hk ?_
  unfold wpO
  rw [if_pos (gd_spec (o := ⟨some d, _, t, pos, af, g⟩) hI hg)]
  unfold Oper.wp
  have hrun : (execOp a.eval ⟨some d, .call { callee := .value (.func f), args := args.toArray, argTypes := tys }, t, pos, af, g⟩).run X.P w = .ok (.enter f (args.map a.eval).toArray) w := by
    show (do let D ← resolve a.eval { callee := .value (.func f), args := args.toArray, argTypes := tys } t; invoke D.target D.args : Sem Next).run X.P w = _
    have hf : a.eval (.func f) = .func (.func f) #[] #[] := rfl
    simp only [resolve, hf, Deferred.ofValue, Sem.run_bind, Sem.run_pure, Result.andThen_ok, invoke]
    rw [hgo]
    congr 2
    simp
  rw [hrun]
  have hfr : ∀ k, w.heap.size ≤ k → Sof X (bdel B i) ρ k := fun k hk => ⟨(hI.freshS k hk).1, fun j e' hj => by
    by_cases hji : j = i
    · subst hji; rw [bget_bdel_eq] at hj; cases hj
    · rw [bget_bdel_ne _ hji] at hj; exact (hI.freshS k hk).2 j e' hj⟩
  refine Calls.mono (hok (Sof X (bdel B i) ρ) w _ hfr (hargs a ρ w hI)) ?_
  rintro e w' ⟨v, rfl, hv, hb⟩
  exact ⟨hb, h _ ρ w' ((hI.below hb).put (s := .ct (.ex u)) (lt_of_blt hn) hv)⟩
theorem Is.readX {a : Act} {ρ : Nat → Value} {w : World} (hI : Is X L B a ρ w) {i el n : Nat} {v : Value} {es : List (List CT)} (hi : bget B i = some (.rowx v el n es.flatten)) (hk : ∀ e ∈ es, e.length = n) (hp : 0 < n) (hbor : ∀ gb, X.bor gb → X.S0 gb) : (CT.fr (sliceT n es)).p (Sof X (bdel B i) ρ) w v := by
  have h := (hI.ent i _ hi).1
  have := hI.frozen_val (e2 := .row el n es.flatten) (T := sliceT n es) hi ⟨es, rfl, hk, hp, rfl⟩ h.2 (fun g _ hb => hbor g hb)
  rw [h.1] at this; exact this
theorem Is.readK {a : Act} {ρ : Nat → Value} {w : World} (hI : Is X L B a ρ w) {i el n gb m c : Nat} {es : List (List CT)} (q : Nat) (hi : bget B i = some (.rowx (kh gb 0 m c) el n es.flatten)) (hm : es.length = m) (hk : ∀ e ∈ es, e.length = n) (hp : 0 < n) (hq : q ≤ m) (hm0 : 0 < m) (hbor : ∀ gb, X.bor gb → X.S0 gb) : (CT.fr (sliceT n (es.take q))).p (Sof X (bdel B i) ρ) w (kh gb 0 q c) := by
  obtain ⟨A, cc, h1, h2, h3, h4, h5⟩ := hI.readX hi hk hp hbor
  injection h1 with e1 e2 e3
  subst e3
  obtain ⟨b, o, h6, h7⟩ := h5 (fun h => by rw [h] at hm; simp at hm; omega)
  rw [h6] at e1
  injection e1 with e1
  injection e1 with e1 e4
  subst e1; subst e4
  refine ⟨some ⟨gb, 0, none⟩, c, by rw [List.length_take, Nat.min_eq_left (by omega)], by rw [List.length_take]; omega, h3, fun e he => hk e (List.mem_of_mem_take he), fun _ => ⟨gb, 0, rfl, ?_⟩⟩
  have := cut_memAt h7 hk 0 q
  simpa using this
def Sl.ren (a : Nat) : Sl → Sl
  | .own _ => .own a
  | s => s
theorem OkM.nm {P : Program} {f : FuncId} {As : List CT} {e : Ent} {α : Type} {J : α → Prop} {R : α → Sl} {k : Nat} {e' : α → Ent} (a : Nat) (h : OkM P f (As.map Sl.ct) [(0, e)] [] J R (fun q => [(k, e' q)])) (hR : ∀ q, J q → (∃ c, R q = .ct c) ∨ R q = .own k) :
    OkM P f (As.map Sl.ct) [(a, e)] [] J (fun q => (R q).ren a) (fun q => [(a, e' q)]) := by
  intro S w ρ vs hS hSe hH hsl
  have g1 : ∀ {α' : Type} (c : Nat) (x : Ent) (i : Nat) (y : Ent), bget [(c, x)] i = some y ↔ i = c ∧ y = x := fun c x i y => by
    by_cases hc : c = i
    · subst hc; rw [bget_cons_eq]; constructor
      · intro h; injection h with h; exact ⟨rfl, h.symm⟩
      · rintro ⟨_, rfl⟩; rfl
    · rw [bget_cons_ne _ _ hc]; constructor
      · intro h; cases h
      · rintro ⟨h, _⟩; exact absurd h.symm hc
  have g := @g1 Unit
  have hSn : Sn S [(0, e)] (fun _ => ρ a) = Sn S [(a, e)] ρ := by
    funext k
    refine propext ⟨fun h => ⟨h.1, fun i x hi => ?_⟩, fun h => ⟨h.1, fun i x hi => ?_⟩⟩
    · obtain ⟨rfl, rfl⟩ := (g a e i x).1 hi; exact h.2 0 _ ((g 0 _ 0 _).2 ⟨rfl, rfl⟩)
    · obtain ⟨rfl, rfl⟩ := (g 0 e i x).1 hi; exact h.2 a _ ((g a _ a _).2 ⟨rfl, rfl⟩)
  have hslots : ∀ (As : List CT) (vs : List Value) (ρ' : Nat → Value), slots (Sn S [(a, e)] ρ) ρ w (As.map Sl.ct) vs → slots (Sn S [(a, e)] ρ) ρ' w (As.map Sl.ct) vs := by
    intro As
    induction As with
    | nil =>
      intro vs ρ' h
      cases vs with
      | nil => trivial
      | cons v vs => exact h.elim
    | cons c As ih =>
      intro vs ρ' h
      cases vs with
      | nil => exact h.elim
      | cons v vs => exact ⟨h.1, ih vs ρ' h.2⟩
  refine Calls.mono (h S w (fun _ => ρ a) vs hS (fun i x hi gb hgb => hSe a e ((g a _ a _).2 ⟨rfl, rfl⟩) gb hgb) ⟨fun i x hi => ?_, fun i j x x' hi hj hij => ?_⟩ (by rw [hSn]; exact hslots As vs _ hsl)) ?_
  · obtain ⟨rfl, rfl⟩ := (g 0 e i x).1 hi
    rw [hSn]
    exact hH.ent a _ ((g a _ a _).2 ⟨rfl, rfl⟩)
  · obtain ⟨rfl, rfl⟩ := (g 0 e i x).1 hi
    obtain ⟨rfl, rfl⟩ := (g 0 _ j x').1 hj
    exact absurd rfl hij
  · rintro en w' ⟨v, q, ρ', rfl, hJ, hv, hH', hfx, hnew, hF⟩
    have hSn2 : Sn S [(a, e' q)] (fun _ => ρ' k) = Sn S [(k, e' q)] ρ' := by
      funext b
      refine propext ⟨fun h => ⟨h.1, fun i x hi => ?_⟩, fun h => ⟨h.1, fun i x hi => ?_⟩⟩
      · obtain ⟨rfl, rfl⟩ := (g k _ i x).1 hi; exact h.2 a _ ((g a _ a _).2 ⟨rfl, rfl⟩)
      · obtain ⟨rfl, rfl⟩ := (g a _ i x).1 hi; exact h.2 k _ ((g k _ k _).2 ⟨rfl, rfl⟩)
    refine ⟨v, q, fun _ => ρ' k, rfl, hJ, ?_, ⟨fun i x hi => ?_, fun i j x x' hi hj hij => ?_⟩, fun i hi => absurd hi (by simp), fun i x hi gb hgb => ?_, ?_⟩
    · show Sl.p (Sn S [(a, e' q)] (fun _ => ρ' k)) (fun _ => ρ' k) w' ((R q).ren a) v
      rw [hSn2]
      rcases hR q hJ with ⟨c, hc⟩ | hc
      · rw [hc] at hv ⊢; exact hv
      · rw [hc] at hv ⊢; exact hv
    · obtain ⟨rfl, rfl⟩ := (g a _ i x).1 hi
      rw [hSn2]; exact hH'.ent k _ ((g k _ k _).2 ⟨rfl, rfl⟩)
    · obtain ⟨rfl, rfl⟩ := (g a _ i x).1 hi
      obtain ⟨rfl, rfl⟩ := (g _ _ j x').1 hj
      exact absurd rfl hij
    · obtain ⟨rfl, rfl⟩ := (g a _ i x).1 hi
      rcases hnew k _ ((g k _ k _).2 ⟨rfl, rfl⟩) gb hgb with h1 | ⟨j, f', h1, h2⟩
      · exact .inl h1
      · exact .inr ⟨i, e, (g i _ i _).2 ⟨rfl, rfl⟩, h2⟩
    · have hb : (fun kk => ∃ j f', bget [(0, e)] j = some f' ∧ blk ((fun _ => ρ a) j) = some kk) = fun kk => ∃ j f', bget [(a, e)] j = some f' ∧ blk (ρ j) = some kk := by
        funext kk
        refine propext ⟨fun ⟨j, f', h1, h2⟩ => ⟨a, e, (g a _ a _).2 ⟨rfl, rfl⟩, h2⟩, fun ⟨j, f', h1, h2⟩ => ?_⟩
        obtain ⟨rfl, rfl⟩ := (g a _ j f').1 h1
        exact ⟨0, _, (g 0 _ 0 _).2 ⟨rfl, rfl⟩, h2⟩
      rw [hb] at hF; exact hF
theorem St.factI {c : Code} {Q : Exit → Act → World → Prop} (p : Prop) (hp : ∀ a ρ w, Is X L B a ρ w → p) (h : p → St X L B c Q) : St X L B c Q := fun a ρ w hI => h (hp a ρ w hI) a ρ w hI
def notN (a j : Nat) : Bool := !Nat.beq a j
theorem Ops.call1 {f : FuncId} {args : List Operand} {tys : Array TypeId} {As : List CT} {e : Ent} {α : Type} {J : α → Prop} {R : α → Sl} {e' : α → Ent} (a : Nat) (hgo : InGo X.P f) (hok : OkM X.P f (As.map Sl.ct) [(a, e)] [] J R (fun q => [(a, e' q)])) (hg : gd ops L g = some true) (hargs : evS L args = some (As.map Sl.ct)) (hn : Nat.blt d X.n = true)
    (hbor : ∀ gb, X.bor gb → X.S0 gb) (hi : bget B a = some e) (hfix : ∀ p ∈ X.fix, p.1 ≠ a ∧ (bget B p.1).isSome = true) (hR : ∀ q j, (R q = .own j ∨ ∃ o, R q = .loc j o) → j = a)
    (h : ∀ q, J q → Ops X ops r ((d, R q) :: keepL (notN a) L) ((a, e' q) :: bdel B a) K) : Ops X ops (.cons ⟨some d, .call { callee := .value (.func f), args := args.toArray, argTypes := tys }, t, pos, af, g⟩ .any r) L B K := by
  refine Ops.callM (bdel B a) (notN a) hgo hok hg hargs hn hbor (fun j => ?_) (fun j hj => ?_) (fun j hj => ?_) (fun p hp => ?_) (fun q j hq => ?_) h
  · show _ = bget ((a, e) :: bdel B a) j
    by_cases hja : a = j
    · subst hja; rw [bget_cons_eq]; exact hi
    · rw [bget_cons_ne _ _ hja, bget_bdel_ne _ (Ne.symm hja)]
  · have hja : a ≠ j := fun he => by subst he; rw [bget_bdel_eq] at hj; cases hj
    exact ⟨by rw [bget_cons_ne _ _ hja]; rfl, fun q => by rw [bget_cons_ne _ _ hja]; rfl⟩
  · have hja : a ≠ j := fun he => by subst he; simp [notN] at hj
    exact .inr fun q => by rw [bget_cons_ne _ _ hja]; rfl
  · have := hfix p hp
    exact .inl (by rw [bget_bdel_ne _ this.1]; exact this.2)
  · rw [hR q j hq, bget_cons_eq]; rfl
end Go.Own
namespace Go.Own
section
variable {P : Program} {n : Nat} {S : BSet} {w0 : World} {B0 : BL} {fx : List Nat} {ρ0 : Nat → Value} {α : Type} {J : α → Prop} {R : α → Sl} {B1 : α → BL} {L : AL} {B : BL}
theorem Fin.retMOS {fn : Func} {s : Nat} {sl : Sl} (q : α) (hfn : fn.results = #[.tmp s]) (hs : look L s = some sl) (hR : R q = sl) (hB : ∀ i e, bget (B1 q) i = some e → bget B i = some e) (hfx1 : ∀ i ∈ fx, isBx (bget (B1 q) i) = true) (hJ : J q) :
    Fin (lentM P n S w0 B0 fx ρ0) L B (fun a w => bodyPost P fn (Own.postM S w0 ρ0 B0 fx J R B1) .ret a w) := fun a ρ w hI => by
  refine ⟨hI.defers, a.tmps.getD s undef, ?_, hI.postMS q hB hfx1 hJ (by rw [hR]; exact hI.slot s sl hs)⟩
  simp [results, hfn]
end
theorem spl_app {α : Type} {A D ds : List α} {o : Nat} (h : A.length = o) : spl (A ++ D) o ds = A ++ ds ++ D.drop ds.length := by
  unfold spl
  rw [← h, List.take_left, ← List.drop_drop, List.drop_left]
end Go.Own
namespace Go.Proofs.YtdhmbgogmoaofaaGreat
open Go.Own Go.Limbs
attribute [local irreducible] St Ops Go.Own.Fin Ok OkM
abbrev whsC (zs : List Int) : CT := .fr (sliceT 2 (zs.map whCs))
theorem whs_app (a b : List Int) : whs (a ++ b) = whs a ++ whs b := by simp [whs]
theorem whs_take (l : List Int) (i : Nat) : (whs l).take (i * 2) = whs (l.take i) := by
  induction l generalizing i with
  | nil => simp [whs]
  | cons z l ih =>
    cases i with
    | zero => simp [whs]
    | succ i =>
      have e : whs (z :: l) = boolC (decide (z < 0)) :: natC z.natAbs :: whs l := rfl
      have e2 : whs ((z :: l).take (i + 1)) = boolC (decide (z < 0)) :: natC z.natAbs :: whs (l.take i) := rfl
      rw [e, e2, show (i + 1) * 2 = (i * 2 + 1) + 1 by omega, List.take_succ_cons, List.take_succ_cons, ih]
theorem whs_drop (l : List Int) (i : Nat) : (whs l).drop (i * 2) = whs (l.drop i) := by
  induction l generalizing i with
  | nil => simp [whs]
  | cons z l ih =>
    cases i with
    | zero => simp [whs]
    | succ i =>
      have e : whs (z :: l) = boolC (decide (z < 0)) :: natC z.natAbs :: whs l := rfl
      rw [e, show (i + 1) * 2 = (i * 2 + 1) + 1 by omega, List.drop_succ_cons, List.drop_succ_cons, ih]
      rfl
theorem ones_whs (l : List Int) : ones (whs l) = true := by
  induction l with
  | nil => rfl
  | cons z l ih =>
    have e : whs (z :: l) = boolC (decide (z < 0)) :: natC z.natAbs :: whs l := rfl
    rw [e]
    simp only [ones, ih]; rfl
theorem ones_ints (l : List Int) : ones (ints l) = true := by
  induction l with
  | nil => rfl
  | cons z l ih =>
    have e : ints (z :: l) = intC z :: ints l := rfl
    rw [e]
    simp only [ones, ih]; rfl
theorem erase_td {α : Type} (l : List α) (i : Nat) : l.take i ++ l.drop (i + 1) = l.eraseIdx i := (List.eraseIdx_eq_take_drop_succ ..).symm
theorem goInsert : InGo Tryz.prog 126 := InGo.of Tryz.func126 (by kernel_rfl) (by kernel_rfl)
set_option maxHeartbeats 4000000 in
theorem Insert_ok (gb m : Nat) (l : List Int) (i : Nat) (x : Int) (hl : l.length = m) (hi : i < m) (hm : m ≤ 200) :
    OkM Tryz.prog 126 ([.ex (kh gb 0 m m), intC i, whsC [x]].map Sl.ct) [(0, .rowx (kh gb 0 m m) 94 2 (whs l))] [] (fun _ : Unit => True) (fun _ => .own 1) (fun _ => [(1, .row 94 2 (whs (l.take i ++ x :: l.drop i)))]) := by
  have hwl := whs_len l
  refine OkM.enter Tryz.func126 rfl _ Tryz.ntmps126 rfl (fun i hi => absurd hi (by simp)) ?_
  intro S w ρ0 hbor
  (refine Qy (Qx fun K hK => ?_); refine Qv rfl rfl rfl ?_; refine Qj (hK _ _ (Qz (Qy ?_))); clear hK K; refine Qx (fun K hK => ?_); refine Qq rfl rfl rfl ?_; refine Qq rfl rfl rfl ?_)
  refine Ops.cutKl i rfl rfl rfl rfl sWhs (by omega) rfl ?_
  (refine Qj (hK _ _ (Qz (Qy ?_))); clear hK K; refine Qx (fun K hK => ?_); refine Qq rfl rfl rfl ?_)
  refine Q4 rfl rfl sWhs.und (m := 1) (List.length_map ..) rfl ?_
  (refine Qv rfl rfl rfl ?_; refine Qj (hK _ _ (Qz (Qy (Qy ?_)))); clear hK K; refine Qx (fun K hK => ?_); refine Qq rfl rfl rfl ?_; refine Qw ieql rfl rfl rfl rfl ?_; refine Qj (hK _ _ (Qz (Qs rfl (QU (Qz (Qy ?_)))))); clear hK K; refine Qx (fun K hK => ?_); refine Qq rfl rfl rfl ?_)
  refine Ops.lenKv rfl rfl sWhs.und rfl ?_
  (refine Qv rfl rfl rfl ?_; refine Qj (hK _ _ (Qz (Qy (Qy ?_)))); clear hK K; refine Qx (fun K hK => ?_); refine Qq rfl rfl rfl ?_; refine Qq rfl rfl rfl ?_; refine Qw ieql rfl rfl rfl rfl ?_; refine Qj (hK _ _ (Qz ?_)); clear hK K)
  refine Q0 rfl (fun h => ?_) (fun h => ?_)
  · exfalso; omega
  (refine QU (Qz (Qy (Qy (Qx fun K hK => ?_)))); refine Qq rfl rfl rfl ?_; refine Qq rfl rfl rfl ?_; refine Qw (iadd (by omega) (by omega)) rfl rfl rfl rfl ?_; refine Qq rfl rfl rfl ?_)
  refine Ops.capKv rfl rfl sWhs.und rfl ?_
  (refine Qw igtr rfl rfl rfl rfl ?_; refine Qj (hK _ _ (Qz ?_)); clear hK K)
  refine Q0 rfl (fun h => ?_) (fun h => ?_)
  · (refine Qy (Qx fun K hK => ?_); refine Qq rfl rfl rfl ?_; refine Qq rfl rfl rfl ?_)
    refine Ops.cutKh i rfl rfl rfl rfl sWhs (by omega) rfl ?_
    (refine Qq rfl rfl rfl ?_; refine Qq rfl rfl rfl ?_; refine Qw (iadd (by omega) (by omega)) rfl rfl rfl rfl ?_; refine Qq rfl rfl rfl ?_; refine Qw (isub (by omega) (by omega)) rfl rfl rfl rfl ?_)
    refine Ops.appZK 0 1 (m + 1 - i) rfl rfl rfl (by omega) rfl (by rw [hwl]; omega) (by omega) (by omega) (by omega) sWhs Tryz.underlying3 (by omega) (by omega) rfl rfl rfl ?_
    rw [whs_take]
    have hzl : (zinit (.agg #[.bool false, .slice none 0 0]) (m + 1 - i)).length = (m + 1 - i) * 2 := zinit_len sWhs _
    have htl : (whs (l.take i)).length = i * 2 := by rw [whs_len, List.length_take]; omega
    generalize zinit (.agg #[.bool false, .slice none 0 0]) (m + 1 - i) = Z at *
    refine Xy 40 1 (m + 1) rfl rfl (by rw [List.length_append, htl, hzl]; omega) (by omega) (by decide) (fun g2 c2 hc1 hc2 => ?_)
    (refine Qv rfl rfl rfl ?_; refine Qj (hK _ _ (Qz (Qy ?_))); clear hK K; refine Qx (fun K hK => ?_); refine Qq rfl rfl rfl ?_; refine Qq rfl rfl rfl ?_)
    refine Ops.cutKl i rfl rfl rfl rfl sWhs (by omega) rfl ?_
    rw [if_neg (show ¬ c2 = i by omega), Nat.zero_add]
    (refine Qq rfl rfl rfl ?_)
    refine Ops.copyG 1 i 1 (whCs x) (whs (l.take i) ++ whCs x ++ Z.drop 2) rfl rfl rfl rfl (by rw [List.length_append, htl, hzl]; omega) (by omega) (by omega) sWhs (src_fr (es := [whCs x]) rfl (by simp)) rfl (by rw [spl_app htl]; rfl) rfl ?_
    (refine Qj (hK _ _ (Qz (Qy ?_))); clear hK K)
    refine Xq (by with_reducible exact mixed) 8 (.p 0 (.p 1 (.p 2 (.p 3 (.p 4 (.p 5 (.p 6 (.p 7 (.a 8 .done))))))))) (by kernel_rfl) (fun K hK => ?_)
    (refine Qq rfl rfl rfl ?_; refine Qq rfl rfl rfl ?_; refine Qq rfl rfl rfl ?_; refine Qw (iadd (by omega) (by omega)) rfl rfl rfl rfl ?_)
    refine Ops.cutKl (i + 1) rfl rfl rfl (by omega) sWhs (by omega) rfl ?_
    rw [if_neg (show ¬ c2 = i + 1 by omega), Nat.zero_add]
    (refine Qq rfl rfl rfl ?_; refine Qq rfl rfl rfl ?_)
    refine Ops.cutKl i rfl rfl rfl rfl sWhs (by omega) rfl ?_
    rw [if_neg (show ¬ m = i by omega), Nat.zero_add]
    have h2l : (whs (l.take i) ++ whCs x).length = (i + 1) * 2 := by rw [List.length_append, htl]; show i * 2 + 2 = _; omega
    have hdl : (whs (l.drop i)).length = (m - i) * 2 := by rw [whs_len, List.length_drop]; omega
    refine Ops.copyG 1 (i + 1) (m - i) (whs (l.drop i)) (whs (l.take i ++ x :: l.drop i)) rfl rfl rfl rfl (by rw [List.length_append, h2l, List.length_drop, hzl]; omega) (by omega) (by omega) sWhs ?_ (ones_whs _) ?_ rfl ?_
    · intro a ρ w hI
      obtain ⟨A, cc, us, a1, a2, a3, a4⟩ := src_kh (y := .tmp 53) 0 i rfl rfl rfl (by rw [whs_len, hl]) (by omega) sWhs a ρ w hI
      refine ⟨A, cc, us, a1, a2, ?_, a4⟩
      rw [whs_drop, List.take_of_length_le (l := whs (l.drop i)) (by rw [hdl]; omega)] at a3
      exact a3
    · have hz0 : (Z.drop 2).drop (whs (l.drop i)).length = [] := List.drop_of_length_le (by rw [List.length_drop, hzl, hdl]; omega)
      rw [spl_app h2l, hz0, List.append_nil, List.append_assoc, whs_app]
      rfl
    (refine Qj (hK _ _ (Qz (Qy ?_))); clear hK K; refine Qx (fun K hK => ?_); refine Qq rfl rfl rfl ?_; refine Qv rfl rfl rfl ?_; refine Qj (hK _ _ (Qz (Q3 (QW ?_)))); clear hK K)
    refine Fin.link 6 1 rfl rfl ?_
    refine Fin.retMOS () rfl rfl rfl (fun j e hj => ?_) (fun i hi => absurd hi (by simp)) trivial
    by_cases hj1 : 1 = j
    · subst hj1; exact hj
    · rw [bget_cons_ne _ _ hj1] at hj; cases hj
  · exfalso; omega
theorem goDelete_ints : InGo Tryz.prog 131 := InGo.of Tryz.func131 (by kernel_rfl) (by kernel_rfl)
set_option maxHeartbeats 4000000 in
theorem Delete_ints (gb m c : Nat) (l : List Int) (i : Nat) (hl : l.length = m) (hi : i < m) (hc : m ≤ c) (hm : m ≤ 200) :
    OkM Tryz.prog 131 ([.ex (kh gb 0 m c), intC i, intC (i + 1)].map Sl.ct) [(0, .rowx (kh gb 0 m c) 3 1 (ints l))] [] (fun _ : Unit => c ≤ maxLen) (fun _ => .ct (.ex (kh gb 0 (m - 1) c))) (fun _ => [(0, .rowx (kh gb 0 (m - 1) c) 3 1 (ints (l.eraseIdx i)))]) := by
  refine OkM.enter Tryz.func131 rfl _ Tryz.ntmps131 rfl (fun i hi => absurd hi (by simp)) ?_
  intro S w ρ0 hbor
  refine St.factI (c ≤ maxLen) (fun a ρ w hI => (hI.rowK (i := 0) rfl (by simp [hl]) (by decide)).2.choose_spec.choose_spec.2.2.2.2.1) (fun hcx => ?_)
  (refine Qy (Qx fun K hK => ?_); refine Qv rfl rfl rfl ?_; refine Qj (hK _ _ (Qz (Qy ?_))); clear hK K; refine Qx (fun K hK => ?_); refine Qq rfl rfl rfl ?_; refine Qq rfl rfl rfl ?_; refine Qq rfl rfl rfl ?_; refine Qq rfl rfl rfl ?_)
  refine Ops.lenKv rfl rfl sInts.und rfl ?_
  refine Ops.cutK3 rfl rfl rfl rfl rfl sInts (by omega) (by omega) (by omega) (by omega) rfl ?_
  (refine Qj (hK _ _ (Qz (Qy (Qy ?_)))); clear hK K; refine Qx (fun K hK => ?_); refine Qq rfl rfl rfl ?_; refine Qq rfl rfl rfl ?_; refine Qw ieql rfl rfl rfl rfl ?_; refine Qj (hK _ _ (Qz ?_)); clear hK K)
  refine Q0 rfl (fun h => ?_) (fun h => ?_)
  · exfalso; omega
  (refine QU (Qz (Qy (Qx fun K hK => ?_))); refine Qq rfl rfl rfl ?_)
  refine Ops.lenKv rfl rfl sInts.und rfl ?_
  (refine Qv rfl rfl rfl ?_; refine Qj (hK _ _ (Qz (Qy ?_))); clear hK K)
  refine Xq (by with_reducible exact mixed) 6 (.p 0 (.p 1 (.p 2 (.p 3 (.p 4 (.p 5 (.a 6 (.p 7 .done)))))))) (by kernel_rfl) (fun K hK => ?_)
  (refine Qq rfl rfl rfl ?_; refine Qq rfl rfl rfl ?_)
  refine Ops.cutKh i rfl rfl rfl rfl sInts (by omega) rfl ?_
  (refine Qq rfl rfl rfl ?_; refine Qq rfl rfl rfl ?_)
  refine Ops.cutKl (i + 1) rfl rfl rfl (by omega) sInts (by omega) rfl ?_
  refine Ops.appIn 0 i (i + 1) (ints (l.eraseIdx i)) rfl rfl rfl (by split <;> omega) rfl (by simp [hl]) (by omega) (by omega) sInts (ones_ints _) ?_ rfl ?_
  · rw [Nat.mul_one, Nat.mul_one, Nat.mul_one, ← erase_td, ints_app]
    congr 1
    · simp [ints, List.map_take]
    · rw [List.take_of_length_le (by simp [hl])]; simp [ints, List.map_drop]
  rw [show i + (m - (i + 1)) = m - 1 by omega]
  (refine Qv rfl rfl rfl ?_; refine Qj (hK _ _ (Qz (Qy ?_))); clear hK K; refine Qx (fun K hK => ?_); refine Qq rfl rfl rfl ?_; refine Qq rfl rfl rfl ?_)
  refine Ops.lenKv rfl rfl sInts.und rfl ?_
  (refine Qq rfl rfl rfl ?_)
  refine Ops.cutKlh (m - 1) m rfl rfl rfl rfl (by omega) rfl sInts (by omega) (by omega) rfl ?_
  rw [if_neg (show ¬ c = m - 1 by omega), Nat.zero_add]
  refine Ops.clearK 0 rfl rfl (.inr rfl) rfl (by simp [List.length_eraseIdx, hl, hi]) (by omega) sInts (by decide) ?_
  (refine Qj (hK _ _ (Qz (Qy ?_))); clear hK K; refine Qx (fun K hK => ?_); refine Qq rfl rfl rfl ?_; refine Qv rfl rfl rfl ?_; refine Qj (hK _ _ (Qz (Q3 ?_))); clear hK K)
  refine X9 () [_] rfl (QQ rfl Qu) rfl (fun _ => rfl) hcx
theorem goDelete_whs : InGo Tryz.prog 132 := InGo.of Tryz.func132 (by kernel_rfl) (by kernel_rfl)
set_option maxHeartbeats 4000000 in
theorem Delete_whs (gb m c : Nat) (l : List Int) (i : Nat) (hl : l.length = m) (hi : i < m) (hc : m ≤ c) (hm : m ≤ 200) :
    OkM Tryz.prog 132 ([.ex (kh gb 0 m c), intC i, intC (i + 1)].map Sl.ct) [(0, .rowx (kh gb 0 m c) 94 2 (whs l))] [] (fun _ : Unit => c ≤ maxLen) (fun _ => .ct (.ex (kh gb 0 (m - 1) c))) (fun _ => [(0, .rowx (kh gb 0 (m - 1) c) 94 2 (whs (l.eraseIdx i)))]) := by
  have hwl := whs_len l
  refine OkM.enter Tryz.func132 rfl _ Tryz.ntmps132 rfl (fun i hi => absurd hi (by simp)) ?_
  intro S w ρ0 hbor
  refine St.factI (c ≤ maxLen) (fun a ρ w hI => (hI.rowK (i := 0) rfl (by rw [hwl, hl]) (by decide)).2.choose_spec.choose_spec.2.2.2.2.1) (fun hcx => ?_)
  (refine Qy (Qx fun K hK => ?_); refine Qv rfl rfl rfl ?_; refine Qj (hK _ _ (Qz (Qy ?_))); clear hK K; refine Qx (fun K hK => ?_); refine Qq rfl rfl rfl ?_; refine Qq rfl rfl rfl ?_; refine Qq rfl rfl rfl ?_; refine Qq rfl rfl rfl ?_)
  refine Ops.lenKv rfl rfl sWhs.und rfl ?_
  refine Ops.cutK3 rfl rfl rfl rfl rfl sWhs (by omega) (by omega) (by omega) (by omega) rfl ?_
  (refine Qj (hK _ _ (Qz (Qy (Qy ?_)))); clear hK K; refine Qx (fun K hK => ?_); refine Qq rfl rfl rfl ?_; refine Qq rfl rfl rfl ?_; refine Qw ieql rfl rfl rfl rfl ?_; refine Qj (hK _ _ (Qz ?_)); clear hK K)
  refine Q0 rfl (fun h => ?_) (fun h => ?_)
  · exfalso; omega
  (refine QU (Qz (Qy (Qx fun K hK => ?_))); refine Qq rfl rfl rfl ?_)
  refine Ops.lenKv rfl rfl sWhs.und rfl ?_
  (refine Qv rfl rfl rfl ?_; refine Qj (hK _ _ (Qz (Qy ?_))); clear hK K)
  refine Xq (by with_reducible exact mixed) 6 (.p 0 (.p 1 (.p 2 (.p 3 (.p 4 (.p 5 (.a 6 (.p 7 .done)))))))) (by kernel_rfl) (fun K hK => ?_)
  (refine Qq rfl rfl rfl ?_; refine Qq rfl rfl rfl ?_)
  refine Ops.cutKh i rfl rfl rfl rfl sWhs (by omega) rfl ?_
  (refine Qq rfl rfl rfl ?_; refine Qq rfl rfl rfl ?_)
  refine Ops.cutKl (i + 1) rfl rfl rfl (by omega) sWhs (by omega) rfl ?_
  refine Ops.appIn 0 i (i + 1) (whs (l.eraseIdx i)) rfl rfl rfl (by split <;> omega) rfl (by rw [hwl, hl]) (by omega) (by omega) sWhs (ones_whs _) ?_ rfl ?_
  · rw [← erase_td, whs_app, whs_take, whs_drop, List.take_of_length_le (l := whs (l.drop (i + 1))) (by rw [whs_len, List.length_drop]; omega)]
  rw [show i + (m - (i + 1)) = m - 1 by omega]
  (refine Qv rfl rfl rfl ?_; refine Qj (hK _ _ (Qz (Qy ?_))); clear hK K; refine Qx (fun K hK => ?_); refine Qq rfl rfl rfl ?_; refine Qq rfl rfl rfl ?_)
  refine Ops.lenKv rfl rfl sWhs.und rfl ?_
  (refine Qq rfl rfl rfl ?_)
  refine Ops.cutKlh (m - 1) m rfl rfl rfl rfl (by omega) rfl sWhs (by omega) (by omega) rfl ?_
  rw [if_neg (show ¬ c = m - 1 by omega), Nat.zero_add]
  refine Ops.clearK 0 rfl rfl (.inr rfl) rfl (by rw [whs_len, List.length_eraseIdx, if_pos (by omega), hl]) (by omega) sWhs (by decide) ?_
  (refine Qj (hK _ _ (Qz (Qy ?_))); clear hK K; refine Qx (fun K hK => ?_); refine Qq rfl rfl rfl ?_; refine Qv rfl rfl rfl ?_; refine Qj (hK _ _ (Qz (Q3 ?_))); clear hK K)
  refine X9 () [_] rfl (QQ rfl Qu) rfl (fun _ => rfl) hcx
end Go.Proofs.YtdhmbgogmoaofaaGreat
namespace Go.Own
variable {X : Ctx} {L : AL} {B : BL} {ops : Array Oper} {K : Act → World → Prop} {r : Pl} {k : Kd}
theorem Is.hand {a : Act} {ρ : Nat → Value} {w : World} (hI : Is X L B a ρ w) {i el n m : Nat} {v : Value} {cs : List CT} (hi : bget B i = some (.rowx v el n cs)) (hl : cs.length = m * n) (hm : 0 < m) (hp : 0 < n) : ∃ gb c, v = kh gb 0 m c ∧ m ≤ c ∧ c ≤ maxLen := by
  obtain ⟨h1, n', vs, how, hc⟩ := (hI.ent i _ hi).1
  have hl' := hc.length
  rw [how.1, hl] at hl'
  have hnm : n' = m := Nat.eq_of_mul_eq_mul_right hp hl'
  subst hnm
  rcases how.2 with ⟨h2, h3⟩ | ⟨gb, cap, cur, h2, h3, h4, h5, h6, _⟩
  · omega
  · exact ⟨gb, cap, h1.symm.trans h2, h5, h6⟩
theorem Ops.hand {l : Pl} (i m : Nat) {el n : Nat} {v : Value} {cs : List CT} (hi : bget B i = some (.rowx v el n cs)) (hl : cs.length = m * n) (hm : 0 < m) (hp : 0 < n) (h : ∀ gb cc, v = kh gb 0 m cc → m ≤ cc → cc ≤ maxLen → Ops X ops l L B K) : Ops X ops l L B K := fun a ρ w hI => by
  obtain ⟨gb, cc, h1, h2, h3⟩ := hI.hand hi hl hm hp
  exact h gb cc h1 h2 h3 a ρ w hI
end Go.Own
namespace Go.Proofs.YtdhmbgogmoaofaaGreat
open Go.Own Go.Limbs
attribute [local irreducible] St Ops Go.Own.Fin Ok OkM
theorem goIndex_ints : InGo Tryz.prog 128 := InGo.of Tryz.func128 (by kernel_rfl) (by kernel_rfl)
theorem Index_ints (xs : List Int) (v : Int) (hl : xs.length < 4611686018427387904) : Ok Tryz.prog 128 [intsC xs, intC v] (intC (idxI (fun x => decide (v = x)) xs)) := by
  refine Ok.enter Tryz.func128 rfl _ Tryz.ntmps128 rfl ?_
  intro S w
  (refine Qy (Qx fun K hK => ?_); refine Qv rfl rfl rfl ?_; refine Qj (hK _ _ (Qz (Qy (Qy ?_)))); clear hK K; refine Qx (fun K hK => ?_); refine Qq rfl rfl rfl ?_; refine Q4 rfl rfl (by with_reducible first | exact sNat.und | exact sInts.und) (List.length_map ..) rfl ?_; refine Qq rfl rfl rfl ?_; refine Qj (hK _ _ (Qz (Q2 ?_))); clear hK K)
  refine Ql (α := Nat) (fun i => i ≤ xs.length ∧ ∀ j, j < i → decide (v = xs.getD j 0) = false)
    (fun i => [(0, .ct (intsC xs)), (1, .ct (intC v)), (7, .ct (intC xs.length)), (8, .ct (intC i))]) (fun _ => []) (fun i => xs.length - i) 0 ⟨Nat.zero_le _, fun j h => absurd h (Nat.not_lt_zero j)⟩ (by exact QZ rfl ⟨rfl, rfl, rfl, rfl, trivial⟩) ?_
  intro i ⟨hi, hv⟩
  dsimp only
  (refine Qy (Qx fun K hK => ?_); refine Qw ilss rfl rfl rfl rfl ?_; refine Qj (hK _ _ (Qz (Qy ?_))); clear hK K)
  refine Q0 rfl (fun h => ?_) (fun h => ?_)
  · have e2 : (i : Int).toNat = i := Int.toNat_natCast i
    (refine QU (Qz (Qy (Q2 (Qy (Qx fun K hK => ?_))))); refine Qq rfl rfl rfl ?_; refine Qv rfl rfl rfl ?_; refine Qj (hK _ _ (Qz (Qy ?_))); clear hK K; refine Qx (fun K hK => ?_); refine Qq rfl rfl rfl ?_; refine Qq rfl rfl rfl ?_; refine Qq rfl rfl rfl ?_; refine Qf rfl rfl rfl (by with_reducible first | exact sNat | exact sInts) (by omega) (ints_at (by omega) (by omega)) rfl ?_; refine Qm rfl rfl rfl (by with_reducible first | exact lInt | exact lNat | exact lBool | exact lInts) rfl ?_; refine Qw ieql rfl rfl rfl rfl ?_; refine Qj (hK _ _ (Qz ?_)); clear hK K)
    refine Q0 rfl (fun h2 => ?_) (fun h2 => ?_)
    · rw [e2] at h2
      (refine Qy (Qx fun K hK => ?_); refine Qq rfl rfl rfl ?_; refine Qv rfl rfl rfl ?_; refine Qj (hK _ _ (Qz (Q3 (Q9 (QW (QW (Q9 (QW ?_)))))))); clear hK K)
      refine QK [_] rfl (QQ rfl Qu) (by rw [idxI_hit (p := fun x => decide (v = x)) (z := 0) (by omega) (decide_eq_true h2) hv]; rfl) rfl
    · rw [e2] at h2
      (refine QU (Qz (Qx fun K hK => ?_)); refine Qw (iadd (by omega) (by omega)) rfl rfl rfl rfl ?_; refine Qq rfl rfl rfl ?_; refine Qj (hK _ _ (Q5 ?_)); clear hK K)
      refine Q8 (i + 1) (by omega) ⟨by omega, ?_⟩ (by exact QZ rfl ⟨rfl, rfl, rfl, by simp only [Int.natCast_add]; rfl, trivial⟩)
      intro j hj
      rcases Nat.lt_or_ge j i with h3 | h3
      · exact hv j h3
      · have : j = i := by omega
        rw [this]; exact decide_eq_false h2
  · have hi' : i = xs.length := by omega
    (refine Qe (Qz (Qy (Qx fun K hK => ?_))); refine Qv rfl rfl rfl ?_; refine Qj (hK _ _ (Qz (Q3 ?_))); clear hK K)
    refine QK [_] rfl (QQ rfl Qu) (by rw [idxI_miss (fun j hj => hv j (by omega))]; rfl) rfl
theorem whs_at {zs : List Int} {j : Int} (h0 : 0 ≤ j) (h : j < (zs.length : Int)) : (zs.map whCs)[j.toNat]? = some (whCs (zs.getD j.toNat 0)) := map_at whCs 0 h0 h
theorem goIndexFunc_whs : InGo Tryz.prog 129 := InGo.of Tryz.func129 (by kernel_rfl) (by kernel_rfl)
theorem IndexFunc_whs (xs : List Int) (f : FuncId) (p : Int → Bool) (hgo : InGo Tryz.prog f) (hf : ∀ x ∈ xs, Ok Tryz.prog f [whC x] (boolC (p x))) (hl : xs.length < 4611686018427387904) : Ok Tryz.prog 129 [whsC xs, (.ex (.func (.func f) #[] #[]))] (intC (idxI p xs)) := by
  refine Ok.enter Tryz.func129 rfl _ Tryz.ntmps129 rfl ?_
  intro S w
  (refine Qy (Qx fun K hK => ?_); refine Qv rfl rfl rfl ?_; refine Qj (hK _ _ (Qz (Qy (Qy ?_)))); clear hK K; refine Qx (fun K hK => ?_); refine Qq rfl rfl rfl ?_)
  refine Q4 rfl rfl sWhs.und (List.length_map ..) rfl ?_
  (refine Qq rfl rfl rfl ?_; refine Qj (hK _ _ (Qz (Q2 ?_))); clear hK K)
  refine Ql (α := Nat) (fun i => i ≤ xs.length ∧ ∀ j, j < i → p (xs.getD j 0) = false)
    (fun i => [(0, .ct (whsC xs)), (1, .ct (.ex (.func (.func f) #[] #[]))), (7, .ct (intC xs.length)), (8, .ct (intC i))]) (fun _ => []) (fun i => xs.length - i) 0 ⟨Nat.zero_le _, fun j h => absurd h (Nat.not_lt_zero j)⟩ (by exact QZ rfl ⟨rfl, rfl, rfl, rfl, trivial⟩) ?_
  intro i ⟨hi, hv⟩
  dsimp only
  (refine Qy (Qx fun K hK => ?_); refine Qw ilss rfl rfl rfl rfl ?_; refine Qj (hK _ _ (Qz (Qy ?_))); clear hK K)
  refine Q0 rfl (fun h => ?_) (fun h => ?_)
  · have e2 : (i : Int).toNat = i := Int.toNat_natCast i
    (refine QU (Qz (Qy (Q2 (Qy (Qx fun K hK => ?_))))); refine Qq rfl rfl rfl ?_; refine Qv rfl rfl rfl ?_; refine Qj (hK _ _ (Qz (Qy ?_))); clear hK K; refine Qx (fun K hK => ?_); refine Qq rfl rfl rfl ?_; refine Qq rfl rfl rfl ?_; refine Qq rfl rfl rfl ?_)
    refine Qf rfl rfl rfl (by with_reducible exact sWhs) (by omega) (whs_at (by omega) (by omega)) rfl ?_
    rw [e2]
    refine X8 (n := 2) rfl rfl rfl (by with_reducible exact lWh) rfl rfl ?_
    refine Ops.callF hgo rfl (hf _ (getD_mem (by omega))) rfl rfl rfl rfl ?_
    (refine Qj (hK _ _ (Qz ?_)); clear hK K)
    refine X0 rfl (fun h2 => ?_) (fun h2 => ?_)
    · (refine Qy (Qx fun K hK => ?_); refine Qq rfl rfl rfl ?_; refine Qv rfl rfl rfl ?_; refine Qj (hK _ _ (Qz (Q3 (Q9 (QW (QW (Q9 (QW ?_)))))))); clear hK K)
      refine QK [_] rfl (QQ rfl Qu) (by rw [idxI_hit (by omega) h2 hv]; rfl) rfl
    · (refine QU (Qz (Qx fun K hK => ?_)); refine Qw (iadd (by omega) (by omega)) rfl rfl rfl rfl ?_; refine Qq rfl rfl rfl ?_; refine Qj (hK _ _ (Q5 ?_)); clear hK K)
      refine Q8 (i + 1) (by omega) ⟨by omega, ?_⟩ (by exact QZ rfl ⟨rfl, rfl, rfl, by simp only [Int.natCast_add]; rfl, trivial⟩)
      intro j hj
      rcases Nat.lt_or_ge j i with h3 | h3
      · exact hv j h3
      · have : j = i := by omega
        rw [this]; exact h2
  · have hi' : i = xs.length := by omega
    (refine Qe (Qz (Qy (Qx fun K hK => ?_))); refine Qv rfl rfl rfl ?_; refine Qj (hK _ _ (Qz (Q3 ?_))); clear hK K)
    refine QK [_] rfl (QQ rfl Qu) (by rw [idxI_miss (fun j hj => hv j (by omega))]; rfl) rfl
theorem gostart1 : InGo Tryz.prog 130 := InGo.of Tryz.func130 (by kernel_rfl) (by kernel_rfl)
theorem start1_ok (x : Int) : Ok Tryz.prog 130 [whC x] (boolC (decide (x ≠ 0))) := by
  refine Ok.enter Tryz.func130 rfl _ Tryz.ntmps130 rfl ?_
  intro S w
  (refine Qy (Qx fun K hK => ?_); refine Qt 4 rfl rfl rfl rfl rfl rfl rfl ?_; refine Qv rfl rfl rfl ?_; refine Qj (hK _ _ (Qz (Qy ?_))); clear hK K; refine Qx (fun K hK => ?_); refine Qp (n := 2) rfl rfl rfl rfl rfl (by with_reducible first | exact lWh | exact lRow) rfl ?_)
  refine QX gosign (sign_ok x) rfl rfl rfl rfl ?_
  (refine Qw ineq rfl rfl rfl rfl ?_; refine Qv rfl rfl rfl ?_; refine Qj (hK _ _ (Qz (Q3 ?_))); clear hK K)
  refine QK [_] rfl (QQ rfl Qu) ?_ rfl
  have : decide (x ≠ 0) = decide (x.sign ≠ 0) := by
    have := sgn_eq (z := x)
    by_cases h : x = 0
    · simp [h]
    · simp [h]
  rw [this]; rfl
end Go.Proofs.YtdhmbgogmoaofaaGreat
namespace Go.Own
variable {X : Ctx} {L : AL} {B : BL} {ops : Array Oper} {K : Act → World → Prop} {r : Pl} {k : Kd}
theorem Is.shrink {a : Act} {ρ : Nat → Value} {w : World} (hI : Is X L B a ρ w) {i gb m c el n : Nat} {cs : List CT} (q : Nat) (hi : bget B i = some (.rowx (kh gb 0 m c) el n cs)) (hl : cs.length = m * n) (hp : 0 < n) (hq : q ≤ m) :
    Is X (Own.killL i L) (bset B i (.rowx (kh gb 0 q c) el n (cs.take (q * n)))) a (upd ρ i (kh gb 0 q c)) w := by
  obtain ⟨hρ, vs, cur, hc, hlv, hgb, hmc, hcm, hcz, htk⟩ := hI.rowK hi hl hp
  have hjn : q * n ≤ m * n := Nat.mul_le_mul_right _ hq
  have hW := Is.write (i := i) (v := kh gb 0 q c) (e' := .rowx (kh gb 0 q c) el n (cs.take (q * n))) (w' := w) (hI.killL i) hi rfl rfl rfl (Nat.le_refl _) (fun _ _ _ => rfl) (.inl (by rw [hρ]; rfl))
    (fun S' hk => ⟨rfl, q, vs.take (q * n), ⟨by rw [List.length_take, hlv]; omega, .inr ⟨gb, c, cur, rfl, Nat.zero_le _, hgb, by omega, hcm, hcz, by rw [← htk, List.take_take]; congr 1; omega⟩⟩, (hc.take _).mono hk⟩) (.inr (noN_killL i L)) (.inr rfl)
  exact hW.bext (bget_bset hi)
theorem Ops.shrink {l : Pl} {gb m c el n : Nat} {cs : List CT} (i q : Nat) (hi : bget B i = some (.rowx (kh gb 0 m c) el n cs)) (hl : cs.length = m * n) (hp : 0 < n) (hq : q ≤ m)
    (h : Ops X ops l (killL i L) (bset B i (.rowx (kh gb 0 q c) el n (cs.take (q * n)))) K) : Ops X ops l L B K := fun a ρ w hI => h a (upd ρ i (kh gb 0 q c)) w (hI.shrink q hi hl hp hq)
end Go.Own
namespace Go.Proofs.YtdhmbgogmoaofaaGreat
open Go.Own Go.Limbs
def Tv.wh (T H : Tv) : Tv := { T with hR := H.hR, hB := H.hB, hC := H.hC, hl := H.hl }
theorem pvt_wh (T H : Tv) (r s : Nat) : pvt (T.wh H) r s = (pvt T r s).wh H := rfl
theorem Gd.wh {T H : Tv} (G : Gd T) (h : H.hl.length = T.rows.length) : Gd (T.wh H) := ⟨⟨h, G.fit.row, G.fit.bas, G.fit.few, G.fit.thin⟩, G.short, G.den, G.dens⟩
theorem levS_wh (T H : Tv) (s : Nat) : ∀ i, levS (T.wh H) s i = levS T s i
  | 0 => rfl
  | i + 1 => by simp only [levS, levS_wh T H s i]; rfl
theorem RunOk.wh {gi : Nat} {T' H : Tv} {s : Int} : ∀ {k : Nat} {T : Tv}, RunOk gi T' s k T → H.hl.length = T.rows.length → RunOk gi (T'.wh H) s k (T.wh H)
  | 0, T, ⟨G, h1, h2⟩, hl => ⟨G.wh hl, by rw [h1], by rw [levS_wh]; exact h2⟩
  | k + 1, T, ⟨G, h1, h2, h3⟩, hl => by
    refine ⟨G.wh hl, h1, ?_, ?_⟩
    · rw [levS_wh]; exact h2
    · rw [levS_wh]; exact RunOk.wh h3 (by rw [pvt_rows]; exact hl)
theorem pvt_bas (T : Tv) (r s : Nat) : (pvt T r s).bas.length = T.bas.length := by simp [pvt]
theorem pvt_col (T : Tv) (r s : Nat) : (pvt T r s).col.length = T.col.length := by simp [pvt]
theorem RunOk.lens {gi : Nat} {T' : Tv} {s : Int} : ∀ {k : Nat} {T : Tv}, RunOk gi T' s k T → T'.rows.length = T.rows.length ∧ T'.bas.length = T.bas.length ∧ T'.col.length = T.col.length
  | 0, T, ⟨G, h1, h2⟩ => by subst h1; exact ⟨rfl, rfl, rfl⟩
  | k + 1, T, ⟨G, h1, h2, h3⟩ => by
    have := RunOk.lens h3
    rw [pvt_rows, pvt_bas, pvt_col] at this
    exact this
theorem RunOk.last {gi : Nat} {T' : Tv} {s : Int} : ∀ {k : Nat} {T : Tv}, RunOk gi T' s k T → Gd T'
  | 0, T, ⟨G, h1, h2⟩ => by subst h1; exact G
  | k + 1, T, ⟨G, h1, h2, h3⟩ => RunOk.last h3
def wrS (T : Tv) : Nat → Int
  | 0 => -1
  | i + 1 => if T.at i T.col.length < 0 ∧ (wrS T i < 0 ∨ T.at i T.col.length + -(T.at (wrS T i).toNat T.col.length) < 0) then i else wrS T i
theorem wrS_bd (T : Tv) : ∀ i, -1 ≤ wrS T i ∧ wrS T i < i
  | 0 => by simp [wrS]
  | i + 1 => by
    have := wrS_bd T i
    simp only [wrS]
    split <;> omega
def insX (m k : Nat) : Int := if k < m then -1 else if k = m + 1 then 1 else 0
def insL (m q k : Nat) (l : List Int) : List Int := l.take q ++ insX m k :: l.drop q
theorem insL_len {m q k : Nat} {l : List Int} (h : q ≤ l.length) : (insL m q k l).length = l.length + 1 := by
  unfold insL
  rw [List.length_append, List.length_cons, List.length_take, List.length_drop]; omega
def insP (m q : Nat) (rows : List (List Int)) (i : Nat) : List (List Int) := (List.range rows.length).map fun k => if k < i then insL m q k (rows.getD k []) else rows.getD k []
theorem insP_len (m q : Nat) (rows : List (List Int)) (i : Nat) : (insP m q rows i).length = rows.length := by simp [insP]
theorem insP_zero (m q : Nat) (rows : List (List Int)) : insP m q rows 0 = rows := by
  unfold insP
  rw [show (fun k => if k < 0 then insL m q k (rows.getD k []) else rows.getD k []) = fun k => rows.getD k [] by funext k; rw [if_neg (by omega)]]
  exact range_self rows []
theorem insP_at (m q : Nat) (rows : List (List Int)) (i : Nat) (h : i < rows.length) : (insP m q rows i).getD i [] = rows.getD i [] := by
  unfold insP; rw [range_getD _ _ _ h, if_neg (by omega)]
theorem insP_set (m q : Nat) (rows : List (List Int)) (i : Nat) (h : i < rows.length) : (insP m q rows i).set i (insL m q i (rows.getD i [])) = insP m q rows (i + 1) := by
  unfold insP
  refine range_set _ _ _ i _ h (fun j hj => ?_)
  by_cases e : j = i
  · subst e; rw [if_pos rfl, if_pos (by omega)]
  · rw [if_neg e]
    by_cases h2 : j < i
    · rw [if_pos h2, if_pos (by omega)]
    · rw [if_neg h2, if_neg (by omega)]
def insT (T : Tv) (art : Int) : Tv := { T with rows := insP T.bas.length T.col.length (T.rows ++ [List.replicate (T.col.length + 1) 0]) (T.rows.length + 1), col := T.col ++ [art], hl := T.hl ++ [default] }
def fIx (xs : List Int) (v : Int) : Int := idxI (fun x => decide (v = x)) xs
theorem idxI_bd {α : Type} (p : α → Bool) (xs : List α) : -1 ≤ idxI p xs ∧ idxI p xs < xs.length := by
  unfold idxI
  split
  · rename_i h
    have h1 := List.findIdx_lt_length_of_exists (p := p) (xs := xs) (by simpa using h)
    omega
  · omega
def nzC (E : Tv) (last : Nat) (art : Int) : Int := idxI (fun x => decide (x ≠ 0)) ((E.rows.getD (fIx E.bas art).toNat []).take (last + 1))
def stE2 (E : Tv) (last : Nat) (art : Int) : Tv := if fIx E.bas art < 0 then E else pvt E (fIx E.bas art).toNat (nzC E last art).toNat
def delP (c : Nat) (rows : List (List Int)) (i : Nat) : List (List Int) := (List.range rows.length).map fun k => if k < i then (rows.getD k []).eraseIdx c else rows.getD k []
theorem delP_len (c : Nat) (rows : List (List Int)) (i : Nat) : (delP c rows i).length = rows.length := by simp [delP]
theorem delP_zero (c : Nat) (rows : List (List Int)) : delP c rows 0 = rows := by
  unfold delP
  rw [show (fun k => if k < 0 then (rows.getD k []).eraseIdx c else rows.getD k []) = fun k => rows.getD k [] by funext k; rw [if_neg (by omega)]]
  exact range_self rows []
theorem delP_at (c : Nat) (rows : List (List Int)) (i : Nat) (h : i < rows.length) : (delP c rows i).getD i [] = rows.getD i [] := by
  unfold delP; rw [range_getD _ _ _ h, if_neg (by omega)]
theorem delP_set (c : Nat) (rows : List (List Int)) (i : Nat) (h : i < rows.length) : (delP c rows i).set i ((rows.getD i []).eraseIdx c) = delP c rows (i + 1) := by
  unfold delP
  refine range_set _ _ _ i _ h (fun j hj => ?_)
  by_cases e : j = i
  · subst e; rw [if_pos rfl, if_pos (by omega)]
  · rw [if_neg e]
    by_cases h2 : j < i
    · rw [if_pos h2, if_pos (by omega)]
    · rw [if_neg h2, if_neg (by omega)]
def stE3 (E : Tv) (m last : Nat) (art : Int) : Tv :=
  let E2 := stE2 E last art
  { E2 with rows := delP (fIx E2.col art).toNat (E2.rows.take (m + 1)) (m + 1), col := E2.col.eraseIdx (fIx E2.col art).toNat, hl := E2.hl.take (m + 1) }
structure StartRun (T : Tv) (art : Int) (E : Tv) : Prop where
  worst : 0 ≤ wrS T T.bas.length
  gd : Gd (insT T art)
  run : ∃ s k, RunOk (T.bas.length + 1) E s k (pvt (insT T art) (wrS T T.bas.length).toNat T.col.length)
  piv : ¬ E.at (T.bas.length + 1) (T.col.length + 1) < 0 → 0 ≤ fIx E.bas art → 0 ≤ nzC E T.col.length art
  fit2 : ¬ E.at (T.bas.length + 1) (T.col.length + 1) < 0 → Fit (stE2 E T.col.length art)
  out : ¬ E.at (T.bas.length + 1) (T.col.length + 1) < 0 → 0 ≤ fIx (stE2 E T.col.length art).col art
def stRes (T E : Tv) : Bool := decide (wrS T T.bas.length < 0) || !decide (E.at (T.bas.length + 1) (T.col.length + 1) < 0)
def stOut (T E : Tv) (art : Int) : Tv := if wrS T T.bas.length < 0 then T else if E.at (T.bas.length + 1) (T.col.length + 1) < 0 then E else stE3 E T.bas.length T.col.length art
theorem lines_set2 : ∀ (k : Nat) (hl : List Value) (zs : List (List Int)) (i : Nat) (h : Value) (y : List Int), i < hl.length → i < zs.length → ∀ j, bget (linesB k (hl.set i h) (zs.set i y)) j = bget ((i + k, .rowx h 94 2 (whs y)) :: linesB k hl zs) j
  | _, [], _, _, _, _, h1, _, _ => by simp at h1
  | _, _ :: _, [], _, _, _, _, h2, _ => by simp at h2
  | k, a :: hl, z :: zs, 0, h, y, _, _, j => by
    show bget ((k, .rowx h 94 2 (whs y)) :: linesB (k + 1) hl zs) j = _
    by_cases hk : k = j
    · subst hk; rw [bget_cons_eq, Nat.zero_add, bget_cons_eq]
    · rw [bget_cons_ne _ _ hk, bget_cons_ne _ _ (by omega)]
      show _ = bget ((k, _) :: linesB (k + 1) hl zs) j
      rw [bget_cons_ne _ _ hk]
  | k, a :: hl, z :: zs, i + 1, h, y, h1, h2, j => by
    have ih := lines_set2 (k + 1) hl zs i h y (by simpa using h1) (by simpa using h2) j
    show bget ((k, .rowx a 94 2 (whs z)) :: linesB (k + 1) (hl.set i h) (zs.set i y)) j = _
    by_cases hk : k = j
    · subst hk
      rw [bget_cons_eq, bget_cons_ne _ _ (by omega)]
      show _ = bget ((k, _) :: linesB (k + 1) hl zs) k
      rw [bget_cons_eq]
    · rw [bget_cons_ne _ _ hk, ih]
      by_cases h3 : i + (k + 1) = j
      · subst h3; rw [bget_cons_eq, show i + 1 + k = i + (k + 1) by omega, bget_cons_eq]
      · rw [bget_cons_ne _ _ h3, bget_cons_ne _ _ (by omega)]
        show _ = bget ((k, _) :: linesB (k + 1) hl zs) j
        rw [bget_cons_ne _ _ hk]
theorem bget_bset' {B : BL} {i : Nat} {e0 f : Ent} (h : bget B i = some e0) (j : Nat) : bget (bset B i f) j = if i = j then some f else bget B j := by
  rw [bget_bset h]
  split
  · rename_i h; subst h; rw [bget_cons_eq]
  · rename_i h; rw [bget_cons_ne _ _ h]
theorem upd_B {e0 e1 e1' e2 e3 : Ent} {hl : List Value} {zs : List (List Int)} {i : Nat} {h : Value} {y : List Int} (h1 : i < hl.length) (h2 : i < zs.length) :
    ∀ j, bget ((0, e0) :: (1, e1') :: (2, e2) :: (3, e3) :: linesB 10 (hl.set i h) (zs.set i y)) j = bget (bset ((i + 10, .rowx h 94 2 (whs y)) :: bdel ((0, e0) :: (1, e1) :: (2, e2) :: (3, e3) :: linesB 10 hl zs) (i + 10)) 1 e1') j := fun j => by
  have g1 : bget ((i + 10, .rowx h 94 2 (whs y)) :: bdel ((0, e0) :: (1, e1) :: (2, e2) :: (3, e3) :: linesB 10 hl zs) (i + 10)) 1 = some e1 := by
    rw [bget_cons_ne _ _ (by omega), bget_bdel_ne _ (by omega)]; rfl
  rw [bget_bset' g1]
  by_cases hj1 : 1 = j
  · subst hj1; rw [if_pos rfl]; rfl
  rw [if_neg hj1]
  by_cases hji : i + 10 = j
  · subst hji
    rw [bget_cons_eq]
    show bget (linesB 10 (hl.set i h) (zs.set i y)) (i + 10) = _
    rw [lines_set2 10 hl zs i h y h1 h2, bget_cons_eq]
  · rw [bget_cons_ne _ _ hji, bget_bdel_ne _ (Ne.symm hji)]
    match j, hj1, hji with
    | 0, _, _ => rfl
    | 1, h, _ => exact absurd rfl h
    | 2, _, _ => rfl
    | 3, _, _ => rfl
    | j + 4, _, hji =>
      show bget (linesB 10 (hl.set i h) (zs.set i y)) (j + 4) = bget (linesB 10 hl zs) (j + 4)
      rw [lines_set2 10 hl zs i h y h1 h2, bget_cons_ne _ _ hji]
theorem upd_B4 {e4 e0 e1 e1' e2 e3 : Ent} {hl : List Value} {zs : List (List Int)} {i : Nat} {h : Value} {y : List Int} (h1 : i < hl.length) (h2 : i < zs.length) :
    ∀ j, bget ((0, e0) :: (1, e1') :: (2, e2) :: (3, e3) :: linesB 10 (hl.set i h) (zs.set i y)) j = bget (bdel (bset ((i + 10, .rowx h 94 2 (whs y)) :: bdel ((4, e4) :: (0, e0) :: (1, e1) :: (2, e2) :: (3, e3) :: linesB 10 hl zs) (i + 10)) 1 e1') 4) j := fun j => by
  by_cases h4 : j = 4
  · subst h4; rw [bget_bdel_eq]; exact lines_lt 10 _ _ 4 (by decide)
  rw [bget_bdel_ne _ h4, upd_B (e1 := e1) h1 h2]
  have g1 : ∀ B' : BL, (∀ j, j ≠ 4 → bget B' j = bget ((0, e0) :: (1, e1) :: (2, e2) :: (3, e3) :: linesB 10 hl zs) j) → bget ((i + 10, Ent.rowx h 94 2 (whs y)) :: bdel B' (i + 10)) 1 = some e1 := fun B' hB => by
    rw [bget_cons_ne _ _ (by omega), bget_bdel_ne _ (by omega), hB 1 (by decide)]; rfl
  rw [bget_bset' (g1 _ (fun _ _ => rfl)), bget_bset' (g1 ((4, e4) :: (0, e0) :: (1, e1) :: (2, e2) :: (3, e3) :: linesB 10 hl zs) (fun j hj => bget_cons_ne _ _ (Ne.symm hj)))]
  split
  · rfl
  · by_cases hji : i + 10 = j
    · subst hji; rw [bget_cons_eq, bget_cons_eq]
    · rw [bget_cons_ne _ _ hji, bget_cons_ne _ _ hji, bget_bdel_ne _ (Ne.symm hji), bget_bdel_ne _ (Ne.symm hji), bget_cons_ne _ _ (Ne.symm h4)]
theorem lines_take : ∀ (k q : Nat) (hl : List Value) (zs : List (List Int)) (j : Nat), j < q + k → bget (linesB k (hl.take q) (zs.take q)) j = bget (linesB k hl zs) j
  | k, 0, hl, zs, j, hj => by
    rw [List.take_zero, List.take_zero, lines_lt k hl zs j (by omega)]; rfl
  | k, q + 1, [], zs, j, hj => by simp [linesB]
  | k, q + 1, _ :: _, [], j, hj => by simp [linesB]
  | k, q + 1, h :: hl, z :: zs, j, hj => by
    show bget ((k, .rowx h 94 2 (whs z)) :: linesB (k + 1) (hl.take q) (zs.take q)) j = bget ((k, .rowx h 94 2 (whs z)) :: linesB (k + 1) hl zs) j
    by_cases hk : k = j
    · subst hk; rw [bget_cons_eq, bget_cons_eq]
    · rw [bget_cons_ne _ _ hk, bget_cons_ne _ _ hk, lines_take (k + 1) q hl zs j (by omega)]
theorem drop_B {e0 e1 e2 e3 : Ent} {hl : List Value} {zs : List (List Int)} {q : Nat} (h1 : hl.length = q + 1) (h2 : zs.length = q + 1) :
    ∀ j, bget ((0, e0) :: (1, e1) :: (2, e2) :: (3, e3) :: linesB 10 (hl.take q) (zs.take q)) j = bget (bdel ((0, e0) :: (1, e1) :: (2, e2) :: (3, e3) :: linesB 10 hl zs) (q + 10)) j := fun j => by
  by_cases hj : j = q + 10
  · subst hj
    rw [bget_bdel_eq]
    show bget (linesB 10 (hl.take q) (zs.take q)) (q + 10) = none
    exact lines_ge (.inl (by rw [List.length_take]; omega))
  · rw [bget_bdel_ne _ hj]
    match j, hj with
    | 0, _ => rfl
    | 1, _ => rfl
    | 2, _ => rfl
    | 3, _ => rfl
    | j + 4, hj =>
      show bget (linesB 10 (hl.take q) (zs.take q)) (j + 4) = bget (linesB 10 hl zs) (j + 4)
      rcases Nat.lt_or_ge (j + 4) (q + 10) with h3 | h3
      · exact lines_take 10 q hl zs (j + 4) (by omega)
      · have e : j + 4 = (j - 6) + 10 := by omega
        rw [e, lines_ge (.inl (by rw [List.length_take]; omega)), lines_ge (.inl (by omega))]
end Go.Proofs.YtdhmbgogmoaofaaGreat
