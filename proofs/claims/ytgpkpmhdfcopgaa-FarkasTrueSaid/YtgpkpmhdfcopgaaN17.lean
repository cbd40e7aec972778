/-
  Walks: farkas.Combine, less, covers, Bounds, Refutes, Ceiling, Prune (twelfths).
-/
import Derived.Test.YtgpkpmhdfcopgaaN16
namespace Go.Proofs.Ytgpkpmhdfcopgaa
open Go.Own Go.Limbs
attribute [local irreducible] St Ops Go.Own.Fin Ok

/-- The cells of a list of fractions. -/
def frs (ms : List Int) : List CT := (ms.map fun m => frCs (tf m)).flatten
theorem frs_len (ms : List Int) : (frs ms).length = ms.length * 3 := by
  unfold frs
  rw [flatten_length (k := 3) (fun e he => by obtain ⟨m, _, rfl⟩ := List.mem_map.mp he; rfl)]; simp
theorem frs_snoc (ms : List Int) (m : Int) : frs (ms ++ [m]) = frs ms ++ frCs (tf m) := by simp [frs]
theorem frs_frozen (e : Nat) (ms : List Int) : (Ent.row e 3 (frs ms)).frozen (sliceT 3 (ms.map fun m => frCs (tf m))) :=
  ⟨_, rfl, fun e he => by obtain ⟨m, _, rfl⟩ := List.mem_map.mp he; rfl, by decide, rfl⟩

/-- The coefficient of a variable in a combination. -/
def col (rs : List Rw) (ys : List Int) (j : Nat) : Int := dot (rs.map fun r => r.cs.getD j 0) ys
def cols (rs : List Rw) (ys : List Int) (n : Nat) : List Int := (List.range n).map (col rs ys)
def bsum (rs : List Rw) (ys : List Int) : Int := dot (rs.map fun r => r.b) ys

theorem dot_bd {c x : List Int} (hl : x.length ≤ 64) (hc : ∀ y ∈ c, y.natAbs ≤ 9007199254740992) (hx : ∀ y ∈ x, y.natAbs ≤ 1000) : (dot c x).natAbs ≤ 576460752303423488000 := by
  have := dotN_bd (k := min c.length x.length) hc hx
  unfold dot
  have : min c.length x.length * 9007199254740992000 ≤ 64 * 9007199254740992000 := Nat.mul_le_mul_right _ (by omega)
  omega

set_option maxHeartbeats 4000000 in
theorem Combine_tw (n : Nat) (rs : List Rw) (ys : List Int) (hv : validR n rs = true) (hl : ys.length = rs.length) (hy : ∀ y ∈ ys, 0 ≤ y ∧ y ≤ 1000) :
    Ok Try.prog 29 [intC n, rowsC rs, twsC ys] (.fr (tupT [twsC (cols rs ys n), twC (bsum rs ys), intC 0])) := by
  obtain ⟨v1, v2, v3, v4⟩ := validR_spec hv
  have hy' : ∀ y ∈ ys, y.natAbs ≤ 1000 := fun y h => by have := hy y h; omega
  have hV := LValid_ok n rs (by omega) (fun r hr => by have := (v4 r hr).1; omega)
  rw [hv] at hV
  have hM := multipliers_tw rs ys hl v3 hy
  have hF : ∀ j : Nat, Ok Try.prog 52 [rowsC rs, twsC ys, .fr (closT 53 [.fr (ptrT [intC j])])] (.fr (tupT [twC (col rs ys j), intC 0])) := fun j =>
    fold_tw rs ys _ _ (fun r => r.cs.getD j 0) goCombine1 (fun r _ => Combine1_ok j r) v3 (by omega) (fun r hr => by
      rcases Nat.lt_or_ge j r.cs.length with h | h
      · have := (v4 r hr).2.1 (r.cs.getD j 0) (getD_mem h); omega
      · rw [List.getD_eq_getElem?_getD, List.getElem?_eq_none (by omega)]; decide) hy'
  have hB : Ok Try.prog 52 [rowsC rs, twsC ys, .ex (.func (.func 54) #[] #[])] (.fr (tupT [twC (bsum rs ys), intC 0])) :=
    (fold_tw rs ys _ [] (fun r => r.b) goCombine2 (fun r _ => Combine2_ok r) v3 (by omega) (fun r hr => by have := (v4 r hr).2.2; omega) hy').weak ⟨w_same, w_same, w_fun, trivial⟩
  refine Ok.enter Try.func29 rfl _ Try.ntmps29 rfl ?_
  intro S w
  (refine St.seq ?_; refine St.regionK (fun K hK => ?_); refine Ops.assign rfl rfl rfl ?_; refine Ops.alloc 0 rfl rfl (by with_reducible first | exact zvFrac) rfl rfl rfl ?_; refine Ops.assign rfl rfl rfl ?_; refine Ops.nil (hK _ _ ?_); clear hK K; refine Fin.then ?_; refine St.seq ?_; refine St.seq ?_; refine St.regionK (fun K hK => ?_); refine Ops.move rfl rfl rfl ?_; refine Ops.move rfl rfl rfl ?_)
  refine Ops.call goLValid hV rfl rfl rfl rfl ?_
  (refine Ops.inot rfl rfl rfl ?_; refine Ops.nil (hK _ _ ?_); clear hK K; refine Fin.then ?_; refine St.condF rfl ?_; refine St.skip ?_; refine Fin.then ?_; refine St.seq ?_; refine St.seq ?_; refine St.regionK (fun K hK => ?_); refine Ops.move rfl rfl rfl ?_; refine Ops.move rfl rfl rfl ?_)
  refine Ops.call gomultipliers hM rfl rfl rfl rfl ?_
  (refine Ops.inot rfl rfl rfl ?_; refine Ops.nil (hK _ _ ?_); clear hK K; refine Fin.then ?_; refine St.condF rfl ?_; refine St.skip ?_; refine Fin.then ?_; refine St.seq ?_; refine St.regionK (fun K hK => ?_); refine Ops.assign rfl rfl rfl ?_; refine Ops.nil (hK _ _ ?_); clear hK K; refine Fin.then ?_; refine St.seq ?_; refine St.seq ?_; refine St.regionK (fun K hK => ?_); refine Ops.move rfl rfl rfl ?_; refine Ops.move rfl rfl rfl ?_; refine Ops.nil (hK _ _ ?_); clear hK K; refine Fin.then ?_; refine St.block ?_)
  refine St.nilRow 9 1 34 3 rfl rfl rfl ?_
  skip
  refine St.loop (α := Nat) (fun i => i ≤ n)
    (fun i => [(1, .ct (rowsC rs)), (2, .ct (twsC ys)), (7, .own 0), (9, .own 1), (25, .ct (intC n)), (26, .ct (intC i))])
    (fun i => [(1, .row 34 3 (frs (cols rs ys i))), (0, .box 34 [.ex (.bool false), .ex (.slice none 0 0), .ex (.slice none 0 0)])]) (fun i => n - i) 0 (Nat.zero_le _) (by exact Entails.of rfl ⟨rfl, rfl, rfl, rfl, rfl, rfl, trivial⟩) ?_
  intro i hi
  dsimp only at hi ⊢
  (refine St.seq ?_; refine St.regionK (fun K hK => ?_); refine Ops.ibin ilss rfl rfl rfl rfl ?_; refine Ops.nil (hK _ _ ?_); clear hK K; refine Fin.then ?_; refine St.seq ?_)
  refine St.condP rfl (fun h => ?_) (fun h => ?_)
  · (refine St.skip ?_; refine Fin.then ?_; refine St.seq ?_; refine St.block ?_; refine St.seq ?_; refine St.regionK (fun K hK => ?_); refine Ops.move rfl rfl rfl ?_; refine Ops.alloc 2 rfl rfl (by with_reducible exact zvInt) rfl rfl rfl ?_; refine Ops.st1O rfl rfl rfl rfl rfl (by with_reducible exact zInt) ?_; refine Ops.nil (hK _ _ ?_); clear hK K; refine Fin.then ?_; refine St.seq ?_; refine St.regionK (fun K hK => ?_); refine Ops.move rfl rfl rfl ?_; refine Ops.move rfl rfl rfl ?_)
    refine Ops.freeze 2 _ rfl rfl noBor_sub ?_
    refine Ops.makeFunc rfl rfl rfl ?_
    refine Ops.call gofold (hF i) rfl rfl rfl rfl ?_
    (refine Ops.move rfl rfl rfl ?_; refine Ops.extract rfl rfl rfl rfl ?_; refine Ops.extract rfl rfl rfl rfl ?_; refine Ops.alloc 2 rfl rfl (by with_reducible first | exact zvFrac) rfl rfl rfl ?_; refine Ops.stWN 3 rfl rfl rfl rfl rfl (by with_reducible exact szFrac) rfl rfl ?_; refine Ops.assign rfl rfl rfl ?_; refine Ops.nil (hK _ _ ?_); clear hK K; refine Fin.then ?_; refine St.seq ?_; refine St.seq ?_; refine St.regionK (fun K hK => ?_); refine Ops.move rfl rfl rfl ?_; refine Ops.ibin ineq rfl rfl rfl rfl ?_; refine Ops.nil (hK _ _ ?_); clear hK K; refine Fin.then ?_; refine St.condF rfl ?_; refine St.skip ?_; refine Fin.then ?_; refine St.regionK (fun K hK => ?_); refine Ops.move rfl rfl rfl ?_; refine Ops.ldNO (n := 3) rfl rfl rfl rfl rfl (by with_reducible exact lFrac) rfl ?_)
    refine Ops.litN (n := 3) rfl rfl (by with_reducible exact sFracs) rfl rfl (by decide) rfl ?_
    refine Ops.append1 i (frs (cols rs ys (i + 1))) rfl rfl rfl rfl (by with_reducible exact sFracs) (by rw [frs_len]; simp [cols]) rfl (by omega) (by omega) (by unfold cols; rw [List.range_succ, List.map_append]; exact frs_snoc _ _) rfl ?_
    (refine Ops.assign rfl rfl rfl ?_; refine Ops.nil (hK _ _ ?_); clear hK K; refine Fin.then ?_; refine St.regionK (fun K hK => ?_); refine Ops.ibin (iadd (by omega) (by omega)) rfl rfl rfl rfl ?_; refine Ops.move rfl rfl rfl ?_; refine Ops.nil (hK _ _ ?_); clear hK K; refine Fin.thenN ?_)
    refine Fin.dropB 2 ?_
    refine Fin.next (i + 1) (by omega) (by omega) (by exact Entails.of rfl ⟨rfl, rfl, rfl, rfl, rfl, by simp only [Int.natCast_add]; rfl, trivial⟩)
  · have hi' : i = n := by omega
    subst hi'
    refine St.freeze 1 _ rfl (frs_frozen _ _) noBor_sub ?_
    (refine St.exit ?_; refine Fin.then ?_; refine St.seq ?_; refine St.regionK (fun K hK => ?_); refine Ops.move rfl rfl rfl ?_; refine Ops.move rfl rfl rfl ?_)
    refine Ops.call gofold hB rfl rfl rfl rfl ?_
    (refine Ops.move rfl rfl rfl ?_; refine Ops.extract rfl rfl rfl rfl ?_; refine Ops.extract rfl rfl rfl rfl ?_; refine Ops.alloc 1 rfl rfl (by with_reducible first | exact zvFrac) rfl rfl rfl ?_; refine Ops.stWN 3 rfl rfl rfl rfl rfl (by with_reducible exact szFrac) rfl rfl ?_; refine Ops.assign rfl rfl rfl ?_; refine Ops.nil (hK _ _ ?_); clear hK K; refine Fin.then ?_; refine St.seq ?_; refine St.seq ?_; refine St.regionK (fun K hK => ?_); refine Ops.move rfl rfl rfl ?_; refine Ops.ibin ineq rfl rfl rfl rfl ?_; refine Ops.nil (hK _ _ ?_); clear hK K; refine Fin.then ?_; refine St.condF rfl ?_; refine St.skip ?_; refine Fin.then ?_; refine St.seq ?_)
    refine St.drawK (by with_reducible exact mixed) 3 (.p 0 (.p 2 (.f 1 (.a 3 (.p 4 .done))))) (by kernel_rfl) (fun K hK => ?_)
    (refine Ops.move rfl rfl rfl ?_; refine Ops.assign rfl rfl rfl ?_; refine Ops.ldNO (n := 3) rfl rfl rfl rfl rfl (by with_reducible exact lFrac) rfl ?_; refine Ops.stWN 3 rfl rfl rfl rfl rfl (by with_reducible exact szFrac) rfl rfl ?_; refine Ops.assign rfl rfl rfl ?_; refine Ops.nil (hK _ _ ?_); clear hK K; refine Fin.then ?_; refine St.ret ?_)
    refine Fin.ret [_, _, _] rfl (AllRes.tmp rfl (AllRes.cellN (n := 3) rfl rfl (by with_reducible exact lFrac) rfl (AllRes.tmp rfl AllRes.nil))) rfl rfl
theorem goCombine : InGo Try.prog 29 := InGo.of Try.func29 (by kernel_rfl) (by kernel_rfl)

theorem less_tw (a b : Int) (ha : Tb a) (hb : Tb b) : Ok Try.prog 34 [twC a, twC b] (boolC (decide (a < b))) := by
  refine Ok.enter Try.func34 rfl _ Try.ntmps34 rfl ?_
  intro S w
  (refine St.seq ?_; refine St.regionK (fun K hK => ?_); refine Ops.boxN 0 rfl rfl rfl rfl rfl rfl rfl ?_; refine Ops.boxN 1 rfl rfl rfl rfl rfl rfl rfl ?_; refine Ops.assign rfl rfl rfl ?_; refine Ops.nil (hK _ _ ?_); clear hK K; refine Fin.then ?_; refine St.seq ?_; refine St.regionK (fun K hK => ?_); refine Ops.ldNO (n := 3) rfl rfl rfl rfl rfl (by with_reducible exact lFrac) rfl ?_; refine Ops.ldNO (n := 3) rfl rfl rfl rfl rfl (by with_reducible exact lFrac) rfl ?_)
  refine Ops.call goFCompare (Compare_tw a b ha hb) rfl rfl rfl rfl ?_
  (refine Ops.move rfl rfl rfl ?_; refine Ops.extract rfl rfl rfl rfl ?_; refine Ops.extract rfl rfl rfl rfl ?_; refine Ops.assign rfl rfl rfl ?_; refine Ops.assign rfl rfl rfl ?_; refine Ops.nil (hK _ _ ?_); clear hK K; refine Fin.then ?_; refine St.seq ?_; refine St.regionK (fun K hK => ?_); refine Ops.move rfl rfl rfl ?_; refine Ops.ibin ilss rfl rfl rfl rfl ?_; refine Ops.assign rfl rfl rfl ?_; refine Ops.nil (hK _ _ ?_); clear hK K; refine Fin.then ?_; refine St.ret ?_)
  refine Fin.ret [_] rfl (AllRes.tmp rfl AllRes.nil) (by rw [show decide (a < b) = decide (cmpI a b < 0) by rw [decide_eq_decide, cmpI_neg]]; rfl) rfl
theorem goless : InGo Try.prog 34 := InGo.of Try.func34 (by kernel_rfl) (by kernel_rfl)

def covB (os c : List Int) : Bool := decide (c.length ≤ os.length) && (List.range os.length).all fun j => decide (12 * c.getD j 0 ≤ os.getD j 0)

set_option maxHeartbeats 4000000 in
theorem covers_tw (os c : List Int) (hl : os.length ≤ 64) (hlc : c.length ≤ 64) (ho : ∀ y ∈ os, Tb y) (hc : ∀ y ∈ c, y.natAbs ≤ 9007199254740992) : Ok Try.prog 30 [twsC os, intsC c] (boolC (covB os c)) := by
  refine Ok.enter Try.func30 rfl _ Try.ntmps30 rfl ?_
  intro S w
  (refine St.seq ?_; refine St.regionK (fun K hK => ?_); refine Ops.assign rfl rfl rfl ?_; refine Ops.nil (hK _ _ ?_); clear hK K; refine Fin.then ?_; refine St.seq ?_; refine St.seq ?_; refine St.regionK (fun K hK => ?_); refine Ops.move rfl rfl rfl ?_; refine Ops.lenF rfl rfl (by with_reducible first | exact sNat.und | exact sInts.und) (List.length_map ..) rfl ?_; refine Ops.move rfl rfl rfl ?_; refine Ops.lenF rfl rfl (by with_reducible first | exact sFracs.und | exact sRows.und) (List.length_map ..) rfl ?_; refine Ops.ibin igtr rfl rfl rfl rfl ?_; refine Ops.nil (hK _ _ ?_); clear hK K; refine Fin.then ?_)
  refine St.condP rfl (fun h => ?_) (fun h => ?_)
  · (refine St.seq ?_; refine St.regionK (fun K hK => ?_); refine Ops.assign rfl rfl rfl ?_; refine Ops.nil (hK _ _ ?_); clear hK K; refine Fin.then ?_; refine St.ret ?_; refine Fin.thenRet ?_)
    refine Fin.ret [_] rfl (AllRes.tmp rfl AllRes.nil) (by unfold covB; rw [decide_eq_false (show ¬ c.length ≤ os.length by omega)]; rfl) rfl
  have hle : c.length ≤ os.length := by omega
  clear h
  (refine St.skip ?_; refine Fin.then ?_; refine St.seq ?_; refine St.seq ?_; refine St.regionK (fun K hK => ?_); refine Ops.move rfl rfl rfl ?_; refine Ops.lenF rfl rfl (by with_reducible first | exact sFracs.und | exact sRows.und) (List.length_map ..) rfl ?_; refine Ops.move rfl rfl rfl ?_; refine Ops.nil (hK _ _ ?_); clear hK K; refine Fin.then ?_; refine St.block ?_)
  refine St.loop (α := Nat) (fun i => i ≤ os.length ∧ ∀ j, j < i → 12 * c.getD j 0 ≤ os.getD j 0)
    (fun i => [(1, .ct (intsC c)), (15, .ct (twsC os)), (16, .ct (intC os.length)), (17, .ct (intC i))]) (fun _ => []) (fun i => os.length - i) 0 ⟨Nat.zero_le _, fun j h => absurd h (Nat.not_lt_zero j)⟩ (by exact Entails.of rfl ⟨rfl, rfl, rfl, rfl, trivial⟩) ?_
  intro i ⟨hi, hj⟩
  dsimp only at hi hj ⊢
  (refine St.seq ?_; refine St.regionK (fun K hK => ?_); refine Ops.ibin ilss rfl rfl rfl rfl ?_; refine Ops.nil (hK _ _ ?_); clear hK K; refine Fin.then ?_; refine St.seq ?_)
  refine St.condP rfl (fun h => ?_) (fun h => ?_)
  · have e2 : (i : Int).toNat = i := Int.toNat_natCast i
    have hlt : i < os.length := by omega
    have b0 := ho (os.getD i 0) (getD_mem hlt)
    have b1 : (c.getD i 0).natAbs ≤ 9007199254740992 := by
      rcases Nat.lt_or_ge i c.length with h | h
      · exact hc _ (getD_mem h)
      · rw [List.getD_eq_getElem?_getD, List.getElem?_eq_none (by omega)]; decide
    have hbad : 12 * c.getD i 0 > os.getD i 0 → covB os c = false := fun hgt => by
      unfold covB
      rw [List.all_eq_false.mpr ⟨i, List.mem_range.mpr hlt, by simp only [decide_eq_true_eq]; omega⟩, Bool.and_false]
    have hgood : ¬ (12 * c.getD i 0 > os.getD i 0) → ∀ j, j < i + 1 → 12 * c.getD j 0 ≤ os.getD j 0 := fun hng j hj' => by
      rcases Nat.lt_or_ge j i with h3 | h3
      · exact hj j h3
      · have : j = i := by omega
        rw [this]; omega
    (refine St.skip ?_; refine Fin.then ?_; refine St.seq ?_; refine St.block ?_; refine St.seq ?_; refine St.regionK (fun K hK => ?_); refine Ops.move rfl rfl rfl ?_; refine Ops.idxF rfl rfl rfl (by with_reducible exact sFracs) (by omega) (tws_at (by omega) (by omega)) rfl ?_; refine Ops.ldNF (n := 3) rfl rfl rfl (by with_reducible exact lFrac) rfl rfl ?_; refine Ops.alloc 0 rfl rfl (by with_reducible first | exact zvFrac) rfl rfl rfl ?_; refine Ops.assign rfl rfl rfl ?_; refine Ops.stWN 3 rfl rfl rfl rfl rfl (by with_reducible exact szFrac) rfl rfl ?_; refine Ops.nil (hK _ _ ?_); clear hK K; refine Fin.then ?_; refine St.seq ?_; refine St.regionK (fun K hK => ?_); refine Ops.assign rfl rfl rfl ?_; refine Ops.nil (hK _ _ ?_); clear hK K; refine Fin.then ?_; refine St.seq ?_; refine St.seq ?_; refine St.regionK (fun K hK => ?_); refine Ops.move rfl rfl rfl ?_; refine Ops.move rfl rfl rfl ?_; refine Ops.lenF rfl rfl (by with_reducible first | exact sNat.und | exact sInts.und) (List.length_map ..) rfl ?_; refine Ops.ibin ilss rfl rfl rfl rfl ?_; refine Ops.nil (hK _ _ ?_); clear hK K; refine Fin.then ?_)
    rw [e2]
    skip
    refine St.condP rfl (fun h3 => ?_) (fun h3 => ?_)
    · (refine St.regionK (fun K hK => ?_); refine Ops.move rfl rfl rfl ?_; refine Ops.move rfl rfl rfl ?_; refine Ops.idxF rfl rfl rfl (by with_reducible first | exact sNat | exact sInts) (by omega) (ints_at (by omega) (by omega)) rfl ?_; refine Ops.ld1F rfl rfl rfl (by with_reducible first | exact lInt | exact lNat | exact lBool | exact lInts) rfl ?_; refine Ops.assign rfl rfl rfl ?_; refine Ops.nil (hK _ _ ?_); clear hK K; refine Fin.then ?_; refine St.seq ?_; refine St.regionK (fun K hK => ?_); refine Ops.move rfl rfl rfl ?_)
      rw [e2]
      skip
      refine Ops.call goFFrom (From_tw (c.getD i 0) (by omega) (by omega)) rfl rfl rfl rfl ?_
      (refine Ops.move rfl rfl rfl ?_; refine Ops.extract rfl rfl rfl rfl ?_; refine Ops.extract rfl rfl rfl rfl ?_; refine Ops.alloc 1 rfl rfl (by with_reducible first | exact zvFrac) rfl rfl rfl ?_; refine Ops.stWN 3 rfl rfl rfl rfl rfl (by with_reducible exact szFrac) rfl rfl ?_; refine Ops.assign rfl rfl rfl ?_; refine Ops.nil (hK _ _ ?_); clear hK K; refine Fin.then ?_; refine St.seq ?_; refine St.regionK (fun K hK => ?_); refine Ops.ldNO (n := 3) rfl rfl rfl rfl rfl (by with_reducible exact lFrac) rfl ?_; refine Ops.ldNO (n := 3) rfl rfl rfl rfl rfl (by with_reducible exact lFrac) rfl ?_)
      refine Ops.call goless (less_tw (os.getD i 0) (12 * c.getD i 0) b0 (by unfold Tb; omega)) rfl rfl rfl rfl ?_
      (refine Ops.nil (hK _ _ ?_); clear hK K; refine Fin.then ?_)
      refine St.condP rfl (fun h4 => ?_) (fun h4 => ?_)
      · (refine St.seq ?_; refine St.regionK (fun K hK => ?_); refine Ops.assign rfl rfl rfl ?_; refine Ops.nil (hK _ _ ?_); clear hK K; refine Fin.then ?_; refine St.ret ?_; refine Fin.blockRet ?_; refine Fin.thenRet ?_; refine Fin.thenRet ?_; refine Fin.blockRet ?_; refine Fin.thenRet ?_)
        refine Fin.ret [_] rfl (AllRes.tmp rfl AllRes.nil) (by rw [hbad (by omega)]; rfl) rfl
      · (refine St.skip ?_; refine Fin.then ?_; refine St.regionK (fun K hK => ?_); refine Ops.ibin (iadd (by omega) (by omega)) rfl rfl rfl rfl ?_; refine Ops.move rfl rfl rfl ?_; refine Ops.nil (hK _ _ ?_); clear hK K; refine Fin.thenN ?_)
        refine Fin.dropB 1 (Fin.dropB 0 ?_)
        refine Fin.next (i + 1) (by omega) ⟨by omega, hgood (by omega)⟩ (by exact Entails.of rfl ⟨rfl, rfl, rfl, by simp only [Int.natCast_add]; rfl, trivial⟩)
    · have ec : c.getD i 0 = 0 := by rw [List.getD_eq_getElem?_getD, List.getElem?_eq_none (by omega)]; rfl
      (refine St.skip ?_; refine Fin.then ?_; refine St.seq ?_; refine St.regionK (fun K hK => ?_); refine Ops.move rfl rfl rfl ?_)
      refine Ops.call goFFrom (From_tw 0 (by omega) (by omega)) rfl rfl rfl rfl ?_
      (refine Ops.move rfl rfl rfl ?_; refine Ops.extract rfl rfl rfl rfl ?_; refine Ops.extract rfl rfl rfl rfl ?_; refine Ops.alloc 1 rfl rfl (by with_reducible first | exact zvFrac) rfl rfl rfl ?_; refine Ops.stWN 3 rfl rfl rfl rfl rfl (by with_reducible exact szFrac) rfl rfl ?_; refine Ops.assign rfl rfl rfl ?_; refine Ops.nil (hK _ _ ?_); clear hK K; refine Fin.then ?_; refine St.seq ?_; refine St.regionK (fun K hK => ?_); refine Ops.ldNO (n := 3) rfl rfl rfl rfl rfl (by with_reducible exact lFrac) rfl ?_; refine Ops.ldNO (n := 3) rfl rfl rfl rfl rfl (by with_reducible exact lFrac) rfl ?_)
      refine Ops.call goless (less_tw (os.getD i 0) (12 * 0) b0 (by unfold Tb; omega)) rfl rfl rfl rfl ?_
      (refine Ops.nil (hK _ _ ?_); clear hK K; refine Fin.then ?_)
      refine St.condP rfl (fun h4 => ?_) (fun h4 => ?_)
      · (refine St.seq ?_; refine St.regionK (fun K hK => ?_); refine Ops.assign rfl rfl rfl ?_; refine Ops.nil (hK _ _ ?_); clear hK K; refine Fin.then ?_; refine St.ret ?_; refine Fin.blockRet ?_; refine Fin.thenRet ?_; refine Fin.thenRet ?_; refine Fin.blockRet ?_; refine Fin.thenRet ?_)
        refine Fin.ret [_] rfl (AllRes.tmp rfl AllRes.nil) (by rw [hbad (by omega)]; rfl) rfl
      · (refine St.skip ?_; refine Fin.then ?_; refine St.regionK (fun K hK => ?_); refine Ops.ibin (iadd (by omega) (by omega)) rfl rfl rfl rfl ?_; refine Ops.move rfl rfl rfl ?_; refine Ops.nil (hK _ _ ?_); clear hK K; refine Fin.thenN ?_)
        refine Fin.dropB 1 (Fin.dropB 0 ?_)
        refine Fin.next (i + 1) (by omega) ⟨by omega, hgood (by omega)⟩ (by exact Entails.of rfl ⟨rfl, rfl, rfl, by simp only [Int.natCast_add]; rfl, trivial⟩)
  · have hi' : i = os.length := by omega
    (refine St.exit ?_; refine Fin.then ?_; refine St.seq ?_; refine St.regionK (fun K hK => ?_); refine Ops.assign rfl rfl rfl ?_; refine Ops.nil (hK _ _ ?_); clear hK K; refine Fin.then ?_; refine St.ret ?_)
    refine Fin.ret [_] rfl (AllRes.tmp rfl AllRes.nil) (by
      unfold covB
      rw [decide_eq_true hle, List.all_eq_true.mpr (fun j hj2 => by have := hj j (by have := List.mem_range.mp hj2; omega); simpa using this)]; rfl) rfl
theorem gocovers : InGo Try.prog 30 := InGo.of Try.func30 (by kernel_rfl) (by kernel_rfl)

end Go.Proofs.Ytgpkpmhdfcopgaa
