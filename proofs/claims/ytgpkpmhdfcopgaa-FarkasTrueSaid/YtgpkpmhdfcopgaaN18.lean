/-
  Walks: farkas.Bounds, Refutes, Ceiling, Prune (twelfths).
-/
import Derived.Test.YtgpkpmhdfcopgaaN17
namespace Go.Proofs.Ytgpkpmhdfcopgaa
open Go.Own Go.Limbs
attribute [local irreducible] St Ops Go.Own.Fin Ok

theorem Tb.of {m : Int} (h : m.natAbs ≤ 576460752303423488000) : Tb m := by unfold Tb; omega

theorem col_tb {n : Nat} {rs : List Rw} {ys : List Int} (hv : validR n rs = true) (hl : ys.length = rs.length) (hy : ∀ y ∈ ys, 0 ≤ y ∧ y ≤ 1000) (j : Nat) : (col rs ys j).natAbs ≤ 576460752303423488000 := by
  obtain ⟨v1, v2, v3, v4⟩ := validR_spec hv
  refine dot_bd (by omega) (fun y hy' => ?_) (fun y h => by have := hy y h; omega)
  obtain ⟨r, hr, rfl⟩ := List.mem_map.mp hy'
  rcases Nat.lt_or_ge j r.cs.length with h | h
  · have := (v4 r hr).2.1 (r.cs.getD j 0) (getD_mem h); omega
  · rw [List.getD_eq_getElem?_getD, List.getElem?_eq_none (by omega)]; decide
theorem bsum_tb {n : Nat} {rs : List Rw} {ys : List Int} (hv : validR n rs = true) (hl : ys.length = rs.length) (hy : ∀ y ∈ ys, 0 ≤ y ∧ y ≤ 1000) : (bsum rs ys).natAbs ≤ 576460752303423488000 := by
  obtain ⟨v1, v2, v3, v4⟩ := validR_spec hv
  refine dot_bd (by omega) (fun y hy' => ?_) (fun y h => by have := hy y h; omega)
  obtain ⟨r, hr, rfl⟩ := List.mem_map.mp hy'
  have := (v4 r hr).2.2; omega

theorem covers_cols {n : Nat} {rs : List Rw} {ys : List Int} (hv : validR n rs = true) (hl : ys.length = rs.length) (hy : ∀ y ∈ ys, 0 ≤ y ∧ y ≤ 1000) (c : List Int) (hlc : c.length ≤ 64) (hc : ∀ y ∈ c, y.natAbs ≤ 9007199254740992) : Ok Try.prog 30 [twsC (cols rs ys n), intsC c] (boolC (covB (cols rs ys n) c)) := by
  obtain ⟨v1, v2, v3, v4⟩ := validR_spec hv
  refine covers_tw _ c (by simp [cols]; omega) hlc (fun y hy' => ?_) hc
  obtain ⟨j, _, rfl⟩ := List.mem_map.mp hy'
  exact Tb.of (col_tb hv hl hy j)

set_option maxHeartbeats 4000000 in
theorem Bounds_tw (n : Nat) (rs : List Rw) (c ys : List Int) (most : Int) (hv : validR n rs = true) (hl : ys.length = rs.length) (hy : ∀ y ∈ ys, 0 ≤ y ∧ y ≤ 1000) (hlc : c.length ≤ 64) (hc : ∀ y ∈ c, y.natAbs ≤ 9007199254740992) (hm : Tb most) :
    Ok Try.prog 14 [intC n, rowsC rs, intsC c, twsC ys, twC most] (boolC (covB (cols rs ys n) c && !decide (most < bsum rs ys))) := by
  have h1 := Combine_tw n rs ys hv hl hy
  have h2 := covers_cols hv hl hy c hlc hc
  have h3 := less_tw most (bsum rs ys) hm (Tb.of (bsum_tb hv hl hy))
  generalize cols rs ys n = os at *
  generalize bsum rs ys = bs at *
  refine Ok.enter Try.func14 rfl _ Try.ntmps14 rfl ?_
  intro S w
  (refine St.seq ?_; refine St.regionK (fun K hK => ?_); refine Ops.boxN 0 rfl rfl rfl rfl rfl rfl rfl ?_; refine Ops.assign rfl rfl rfl ?_; refine Ops.nil (hK _ _ ?_); clear hK K; refine Fin.then ?_; refine St.seq ?_; refine St.regionK (fun K hK => ?_); refine Ops.move rfl rfl rfl ?_; refine Ops.move rfl rfl rfl ?_; refine Ops.move rfl rfl rfl ?_)
  refine Ops.call goCombine h1 rfl rfl rfl rfl ?_
  (refine Ops.move rfl rfl rfl ?_; refine Ops.extract rfl rfl rfl rfl ?_; refine Ops.extract rfl rfl rfl rfl ?_; refine Ops.extract rfl rfl rfl rfl ?_; refine Ops.alloc 1 rfl rfl (by with_reducible first | exact zvFrac) rfl rfl rfl ?_; refine Ops.assign rfl rfl rfl ?_; refine Ops.stWN 3 rfl rfl rfl rfl rfl (by with_reducible exact szFrac) rfl rfl ?_; refine Ops.assign rfl rfl rfl ?_; refine Ops.nil (hK _ _ ?_); clear hK K; refine Fin.then ?_; refine St.seq ?_; refine St.regionK (fun K hK => ?_); refine Ops.move rfl rfl rfl ?_; refine Ops.ibin ieql rfl rfl rfl rfl ?_; refine Ops.move rfl rfl rfl ?_; refine Ops.ldNO (n := 3) rfl rfl rfl rfl rfl (by with_reducible exact lFrac) rfl ?_)
  refine Ops.call goFValid (Valid_tw most hm) rfl rfl rfl rfl ?_
  (refine Ops.pickT rfl rfl rfl rfl ?_; refine Ops.move rfl rfl rfl ?_; refine Ops.move rfl rfl rfl ?_; refine Ops.move rfl rfl rfl ?_)
  refine Ops.call gocovers h2 rfl rfl rfl rfl ?_
  (refine Ops.pickT rfl rfl rfl rfl ?_; refine Ops.move rfl rfl rfl ?_)
  refine Ops.split 33 rfl (fun h => ?_) (fun h => ?_)
  · (refine Ops.ldNO (n := 3) rfl rfl rfl rfl rfl (by with_reducible exact lFrac) rfl ?_; refine Ops.ldNO (n := 3) rfl rfl rfl rfl rfl (by with_reducible exact lFrac) rfl ?_)
    refine Ops.call goless h3 rfl rfl rfl rfl ?_
    (refine Ops.inot rfl rfl rfl ?_; refine Ops.pickT rfl rfl rfl rfl ?_; refine Ops.assign rfl rfl rfl ?_; refine Ops.nil (hK _ _ ?_); clear hK K; refine Fin.then ?_; refine St.ret ?_)
    refine Fin.ret [_] rfl (AllRes.tmp rfl AllRes.nil) (by rw [h]; rfl) rfl
  · (refine Ops.skip rfl rfl rfl ?_; refine Ops.skip rfl rfl rfl ?_; refine Ops.skip rfl rfl rfl ?_; refine Ops.skip rfl rfl rfl ?_; refine Ops.pickF rfl rfl rfl rfl ?_; refine Ops.assign rfl rfl rfl ?_; refine Ops.nil (hK _ _ ?_); clear hK K; refine Fin.then ?_; refine St.ret ?_)
    refine Fin.ret [_] rfl (AllRes.tmp rfl AllRes.nil) (by rw [h]; rfl) rfl
theorem goBounds : InGo Try.prog 14 := InGo.of Try.func14 (by kernel_rfl) (by kernel_rfl)

set_option maxHeartbeats 4000000 in
theorem Refutes_tw (n : Nat) (rs : List Rw) (ys : List Int) (hv : validR n rs = true) (hl : ys.length = rs.length) (hy : ∀ y ∈ ys, 0 ≤ y ∧ y ≤ 1000) :
    Ok Try.prog 11 [intC n, rowsC rs, twsC ys] (boolC (decide (bsum rs ys < 0) && covB (cols rs ys n) [])) := by
  have h1 := Combine_tw n rs ys hv hl hy
  have h2 := (covers_cols hv hl hy [] (by simp) (fun y h => by cases h)).weak (As' := [_, .ex (.slice none 0 0)]) ⟨w_same, w_nil, trivial⟩
  have h3 := tf_neg (bsum rs ys)
  generalize cols rs ys n = os at *
  generalize bsum rs ys = bs at *
  refine Ok.enter Try.func11 rfl _ Try.ntmps11 rfl ?_
  intro S w
  (refine St.seq ?_; refine St.regionK (fun K hK => ?_); refine Ops.assign rfl rfl rfl ?_; refine Ops.nil (hK _ _ ?_); clear hK K; refine Fin.then ?_; refine St.seq ?_; refine St.regionK (fun K hK => ?_); refine Ops.move rfl rfl rfl ?_; refine Ops.move rfl rfl rfl ?_; refine Ops.move rfl rfl rfl ?_)
  refine Ops.call goCombine h1 rfl rfl rfl rfl ?_
  (refine Ops.move rfl rfl rfl ?_; refine Ops.extract rfl rfl rfl rfl ?_; refine Ops.extract rfl rfl rfl rfl ?_; refine Ops.extract rfl rfl rfl rfl ?_; refine Ops.alloc 0 rfl rfl (by with_reducible first | exact zvFrac) rfl rfl rfl ?_; refine Ops.assign rfl rfl rfl ?_; refine Ops.stWN 3 rfl rfl rfl rfl rfl (by with_reducible exact szFrac) rfl rfl ?_; refine Ops.assign rfl rfl rfl ?_; refine Ops.nil (hK _ _ ?_); clear hK K; refine Fin.then ?_; refine St.seq ?_; refine St.regionK (fun K hK => ?_); refine Ops.move rfl rfl rfl ?_; refine Ops.ibin ieql rfl rfl rfl rfl ?_; refine Ops.move rfl rfl rfl ?_; refine Ops.fldO rfl rfl rfl (by with_reducible first | exact fF0 | exact fF1 | exact fF2 | exact fR0 | exact fR1) rfl ?_; refine Ops.ld1A rfl rfl rfl rfl rfl (by with_reducible first | exact lInt | exact lNat | exact lBool | exact lInts) rfl ?_; refine Ops.pickT rfl rfl rfl rfl ?_; refine Ops.move rfl rfl rfl ?_)
  refine Ops.split 24 rfl (fun h => ?_) (fun h => ?_)
  · (refine Ops.move rfl rfl rfl ?_)
    refine Ops.call gocovers h2 rfl rfl rfl rfl ?_
    (refine Ops.pickT rfl rfl rfl rfl ?_; refine Ops.assign rfl rfl rfl ?_; refine Ops.nil (hK _ _ ?_); clear hK K; refine Fin.then ?_; refine St.ret ?_)
    refine Fin.ret [_] rfl (AllRes.tmp rfl AllRes.nil) (by rw [← h3, h]; rfl) rfl
  · (refine Ops.skip rfl rfl rfl ?_; refine Ops.skip rfl rfl rfl ?_; refine Ops.pickF rfl rfl rfl rfl ?_; refine Ops.assign rfl rfl rfl ?_; refine Ops.nil (hK _ _ ?_); clear hK K; refine Fin.then ?_; refine St.ret ?_)
    refine Fin.ret [_] rfl (AllRes.tmp rfl AllRes.nil) (by rw [← h3, h]; rfl) rfl
theorem goRefutes : InGo Try.prog 11 := InGo.of Try.func11 (by kernel_rfl) (by kernel_rfl)

set_option maxHeartbeats 4000000 in
theorem Ceiling_tw (n : Nat) (rs : List Rw) (c ys : List Int) (hv : validR n rs = true) (hl : ys.length = rs.length) (hy : ∀ y ∈ ys, 0 ≤ y ∧ y ≤ 1000) (hlc : c.length ≤ 64) (hc : ∀ y ∈ c, y.natAbs ≤ 9007199254740992) (hb : (bsum rs ys).natAbs < 4611686018427387904) :
    Ok Try.prog 15 [intC n, rowsC rs, intsC c, twsC ys] (.fr (tupT [intC (if covB (cols rs ys n) c then bsum rs ys / 12 else 0), boolC (covB (cols rs ys n) c)])) := by
  have h1 := Combine_tw n rs ys hv hl hy
  have h2 := Bounds_tw n rs c ys (bsum rs ys) hv hl hy hlc hc (Tb.of (bsum_tb hv hl hy))
  rw [decide_eq_false (Int.lt_irrefl _), Bool.not_false, Bool.and_true] at h2
  have h3 := Floor_tw (bsum rs ys) hb
  generalize cols rs ys n = os at *
  generalize bsum rs ys = bs at *
  refine Ok.enter Try.func15 rfl _ Try.ntmps15 rfl ?_
  intro S w
  (refine St.seq ?_; refine St.regionK (fun K hK => ?_); refine Ops.assign rfl rfl rfl ?_; refine Ops.assign rfl rfl rfl ?_; refine Ops.nil (hK _ _ ?_); clear hK K; refine Fin.then ?_; refine St.seq ?_; refine St.regionK (fun K hK => ?_); refine Ops.move rfl rfl rfl ?_; refine Ops.move rfl rfl rfl ?_; refine Ops.move rfl rfl rfl ?_)
  refine Ops.call goCombine h1 rfl rfl rfl rfl ?_
  (refine Ops.move rfl rfl rfl ?_; refine Ops.extract rfl rfl rfl rfl ?_; refine Ops.extract rfl rfl rfl rfl ?_; refine Ops.extract rfl rfl rfl rfl ?_; refine Ops.alloc 0 rfl rfl (by with_reducible first | exact zvFrac) rfl rfl rfl ?_; refine Ops.assign rfl rfl rfl ?_; refine Ops.stWN 3 rfl rfl rfl rfl rfl (by with_reducible exact szFrac) rfl rfl ?_; refine Ops.assign rfl rfl rfl ?_; refine Ops.nil (hK _ _ ?_); clear hK K; refine Fin.then ?_; refine St.seq ?_; refine St.seq ?_; refine St.regionK (fun K hK => ?_); refine Ops.move rfl rfl rfl ?_; refine Ops.ibin ineq rfl rfl rfl rfl ?_; refine Ops.move rfl rfl rfl ?_; refine Ops.move rfl rfl rfl ?_; refine Ops.move rfl rfl rfl ?_; refine Ops.move rfl rfl rfl ?_; refine Ops.move rfl rfl rfl ?_; refine Ops.ldNO (n := 3) rfl rfl rfl rfl rfl (by with_reducible exact lFrac) rfl ?_)
  refine Ops.call goBounds h2 rfl rfl rfl rfl ?_
  (refine Ops.inot rfl rfl rfl ?_; refine Ops.pickF rfl rfl rfl rfl ?_; refine Ops.nil (hK _ _ ?_); clear hK K; refine Fin.then ?_)
  refine St.condB rfl (fun h => ?_) (fun h => ?_)
  · have h' : covB os c = false := by simpa using h
    (refine St.seq ?_; refine St.regionK (fun K hK => ?_); refine Ops.assign rfl rfl rfl ?_; refine Ops.assign rfl rfl rfl ?_; refine Ops.nil (hK _ _ ?_); clear hK K; refine Fin.then ?_; refine St.ret ?_; refine Fin.thenRet ?_)
    refine Fin.ret [_, _] rfl (AllRes.tmp rfl (AllRes.tmp rfl AllRes.nil)) (by rw [h']; rfl) rfl
  · have h' : covB os c = true := by simpa using h
    (refine St.skip ?_; refine Fin.then ?_; refine St.seq ?_; refine St.regionK (fun K hK => ?_); refine Ops.ldNO (n := 3) rfl rfl rfl rfl rfl (by with_reducible exact lFrac) rfl ?_)
    refine Ops.call goFFloor h3 rfl rfl rfl rfl ?_
    (refine Ops.move rfl rfl rfl ?_; refine Ops.extract rfl rfl rfl rfl ?_; refine Ops.extract rfl rfl rfl rfl ?_; refine Ops.assign rfl rfl rfl ?_; refine Ops.assign rfl rfl rfl ?_; refine Ops.nil (hK _ _ ?_); clear hK K; refine Fin.then ?_; refine St.seq ?_; refine St.seq ?_; refine St.regionK (fun K hK => ?_); refine Ops.move rfl rfl rfl ?_; refine Ops.ibin ineq rfl rfl rfl rfl ?_; refine Ops.nil (hK _ _ ?_); clear hK K; refine Fin.then ?_; refine St.condF rfl ?_; refine St.skip ?_; refine Fin.then ?_; refine St.seq ?_; refine St.regionK (fun K hK => ?_); refine Ops.move rfl rfl rfl ?_; refine Ops.assign rfl rfl rfl ?_; refine Ops.assign rfl rfl rfl ?_; refine Ops.nil (hK _ _ ?_); clear hK K; refine Fin.then ?_; refine St.ret ?_)
    refine Fin.ret [_, _] rfl (AllRes.tmp rfl (AllRes.tmp rfl AllRes.nil)) (by rw [h']; rfl) rfl
theorem goCeiling : InGo Try.prog 15 := InGo.of Try.func15 (by kernel_rfl) (by kernel_rfl)

/-- The indices of the multipliers that are not 0. -/
def pruned (ys : List Int) : Nat → List Int
  | 0 => []
  | i + 1 => if ys.getD i 0 = 0 then pruned ys i else pruned ys i ++ [(i : Int)]
theorem pruned_len (ys : List Int) (i : Nat) : (pruned ys i).length ≤ i := by
  induction i with
  | zero => simp [pruned]
  | succ i ih => simp only [pruned]; split
                 · omega
                 · simp; omega

set_option maxHeartbeats 4000000 in
theorem Prune_tw (n : Nat) (rs : List Rw) (ys : List Int) (hv : validR n rs = true) (hl : ys.length = rs.length) (hy : ∀ y ∈ ys, 0 ≤ y ∧ y ≤ 1000) : Ok Try.prog 18 [intC n, rowsC rs, twsC ys] (intsC (pruned ys ys.length)) := by
  obtain ⟨v1, v2, v3, v4⟩ := validR_spec hv
  have hV := LValid_ok n rs (by omega) (fun r hr => by have := (v4 r hr).1; omega)
  rw [hv] at hV
  have hM := multipliers_tw rs ys hl v3 hy
  refine Ok.enter Try.func18 rfl _ Try.ntmps18 rfl ?_
  intro S w
  (refine St.seq ?_; refine St.regionK (fun K hK => ?_); refine Ops.assign rfl rfl rfl ?_; refine Ops.nil (hK _ _ ?_); clear hK K; refine Fin.then ?_; refine St.seq ?_; refine St.seq ?_; refine St.regionK (fun K hK => ?_); refine Ops.move rfl rfl rfl ?_; refine Ops.move rfl rfl rfl ?_)
  refine Ops.call goLValid hV rfl rfl rfl rfl ?_
  (refine Ops.inot rfl rfl rfl ?_; refine Ops.move rfl rfl rfl ?_; refine Ops.move rfl rfl rfl ?_; refine Ops.move rfl rfl rfl ?_)
  refine Ops.call gomultipliers hM rfl rfl rfl rfl ?_
  (refine Ops.inot rfl rfl rfl ?_; refine Ops.pickF rfl rfl rfl rfl ?_; refine Ops.nil (hK _ _ ?_); clear hK K; refine Fin.then ?_; refine St.condF rfl ?_; refine St.skip ?_; refine Fin.then ?_; refine St.seq ?_; refine St.regionK (fun K hK => ?_); refine Ops.assign rfl rfl rfl ?_; refine Ops.nil (hK _ _ ?_); clear hK K; refine Fin.then ?_; refine St.seq ?_; refine St.seq ?_; refine St.regionK (fun K hK => ?_); refine Ops.move rfl rfl rfl ?_; refine Ops.lenF rfl rfl (by with_reducible first | exact sFracs.und | exact sRows.und) (List.length_map ..) rfl ?_; refine Ops.move rfl rfl rfl ?_; refine Ops.nil (hK _ _ ?_); clear hK K; refine Fin.then ?_; refine St.block ?_)
  refine St.nilRow 7 0 3 1 rfl rfl rfl ?_
  skip
  refine St.loop (α := Nat) (fun i => i ≤ ys.length)
    (fun i => [(7, .own 0), (20, .ct (twsC ys)), (21, .ct (intC ys.length)), (22, .ct (intC i))]) (fun i => [(0, .row 3 1 (ints (pruned ys i)))]) (fun i => ys.length - i) 0 (Nat.zero_le _) (by exact Entails.of rfl ⟨rfl, rfl, rfl, rfl, trivial⟩) ?_
  intro i hi
  dsimp only at hi ⊢
  (refine St.seq ?_; refine St.regionK (fun K hK => ?_); refine Ops.ibin ilss rfl rfl rfl rfl ?_; refine Ops.nil (hK _ _ ?_); clear hK K; refine Fin.then ?_; refine St.seq ?_)
  refine St.condP rfl (fun h => ?_) (fun h => ?_)
  · have e2 : (i : Int).toNat = i := Int.toNat_natCast i
    have hn := tf_num_zero (ys.getD i 0)
    have hn2 := limbs_len_pos (n := (tf (ys.getD i 0)).num)
    have hpl := pruned_len ys i
    (refine St.skip ?_; refine Fin.then ?_; refine St.seq ?_; refine St.block ?_; refine St.seq ?_; refine St.regionK (fun K hK => ?_); refine Ops.move rfl rfl rfl ?_; refine Ops.idxF rfl rfl rfl (by with_reducible exact sFracs) (by omega) (tws_at (by omega) (by omega)) rfl ?_; refine Ops.ldNF (n := 3) rfl rfl rfl (by with_reducible exact lFrac) rfl rfl ?_; refine Ops.alloc 1 rfl rfl (by with_reducible first | exact zvFrac) rfl rfl rfl ?_; refine Ops.assign rfl rfl rfl ?_; refine Ops.stWN 3 rfl rfl rfl rfl rfl (by with_reducible exact szFrac) rfl rfl ?_; refine Ops.nil (hK _ _ ?_); clear hK K; refine Fin.then ?_; refine St.seq ?_; refine St.regionK (fun K hK => ?_); refine Ops.fldO rfl rfl rfl (by with_reducible first | exact fF0 | exact fF1 | exact fF2 | exact fR0 | exact fR1) rfl ?_; refine Ops.ld1A rfl rfl rfl rfl rfl (by with_reducible first | exact lInt | exact lNat | exact lBool | exact lInts) rfl ?_; refine Ops.lenF rfl rfl (by with_reducible first | exact sNat.und | exact sInts.und) (List.length_map ..) rfl ?_; refine Ops.ibin igtr rfl rfl rfl rfl ?_; refine Ops.nil (hK _ _ ?_); clear hK K; refine Fin.then ?_)
    rw [e2]
    skip
    refine St.condP rfl (fun h2 => ?_) (fun h2 => ?_)
    · have e3 : pruned ys (i + 1) = pruned ys i ++ [(i : Int)] := by simp only [pruned]; rw [if_neg (fun h3 => by have := hn.mpr h3; omega)]
      (refine St.regionK (fun K hK => ?_); refine Ops.move rfl rfl rfl ?_; refine Ops.move rfl rfl rfl ?_)
      refine Ops.lit1 rfl rfl (by with_reducible exact sInts) rfl rfl rfl ?_
      refine Ops.append1 (pruned ys i).length (ints (pruned ys (i + 1))) rfl rfl rfl rfl (by with_reducible exact sInts) (by simp [ints]) rfl (by omega) (by omega) (by rw [e3]; simp [ints]) rfl ?_
      (refine Ops.assign rfl rfl rfl ?_; refine Ops.nil (hK _ _ ?_); clear hK K; refine Fin.then ?_; refine St.regionK (fun K hK => ?_); refine Ops.ibin (iadd (by omega) (by omega)) rfl rfl rfl rfl ?_; refine Ops.move rfl rfl rfl ?_; refine Ops.nil (hK _ _ ?_); clear hK K; refine Fin.thenN ?_)
      refine Fin.dropB 1 ?_
      refine Fin.next (i + 1) (by omega) (by omega) (by exact Entails.of rfl ⟨rfl, rfl, rfl, by simp only [Int.natCast_add]; rfl, trivial⟩)
    · have e3 : pruned ys (i + 1) = pruned ys i := by simp only [pruned]; rw [if_pos (hn.mp (by omega))]
      (refine St.skip ?_; refine Fin.then ?_; refine St.regionK (fun K hK => ?_); refine Ops.ibin (iadd (by omega) (by omega)) rfl rfl rfl rfl ?_; refine Ops.move rfl rfl rfl ?_; refine Ops.nil (hK _ _ ?_); clear hK K; refine Fin.thenN ?_)
      refine Fin.dropB 1 ?_
      refine Fin.next (i + 1) (by omega) (by omega) (by rw [e3]; exact Entails.of rfl ⟨rfl, rfl, rfl, by simp only [Int.natCast_add]; rfl, trivial⟩)
  · have hi' : i = ys.length := by omega
    subst hi'
    refine St.freeze 0 _ rfl (ints_frozen _ _) noBor_sub ?_
    (refine St.exit ?_; refine Fin.then ?_; refine St.seq ?_; refine St.regionK (fun K hK => ?_); refine Ops.move rfl rfl rfl ?_; refine Ops.assign rfl rfl rfl ?_; refine Ops.nil (hK _ _ ?_); clear hK K; refine Fin.then ?_; refine St.ret ?_)
    refine Fin.ret [_] rfl (AllRes.tmp rfl AllRes.nil) rfl rfl
theorem goPrune : InGo Try.prog 18 := InGo.of Try.func18 (by kernel_rfl) (by kernel_rfl)

end Go.Proofs.Ytgpkpmhdfcopgaa
