/-
  Walks: farkas (twelfths).
-/
import Derived.Test.YtgpkpmhdfcopgaaN15
import Derived.Test.YtgpkpmhdfcopgaaK10
namespace Go.Proofs.Ytgpkpmhdfcopgaa
open Go.Own Go.Limbs
attribute [local irreducible] St Ops Go.Own.Fin Ok

theorem zvInt : (Try.prog.info? 3).map (·.zero) = some (some (.int .i64 0)) := by kernel_rfl

theorem multipliers1_tw (m : Int) (hm : Tb m) (h0 : 0 ≤ m) : Ok Try.prog 65 [twC m] (boolC false) := by
  refine Ok.enter Try.func65 rfl _ Try.ntmps65 rfl ?_
  intro S w
  (refine St.seq ?_; refine St.regionK (fun K hK => ?_); refine Ops.boxN 0 rfl rfl rfl rfl rfl rfl rfl ?_; refine Ops.assign rfl rfl rfl ?_; refine Ops.nil (hK _ _ ?_); clear hK K; refine Fin.then ?_; refine St.seq ?_; refine St.regionK (fun K hK => ?_); refine Ops.ldNO (n := 3) rfl rfl rfl rfl rfl (by with_reducible exact lFrac) rfl ?_)
  refine Ops.call goFValid (Valid_tw m hm) rfl rfl rfl rfl ?_
  (refine Ops.inot rfl rfl rfl ?_; refine Ops.move rfl rfl rfl ?_; refine Ops.fldO rfl rfl rfl (by with_reducible first | exact fF0 | exact fF1 | exact fF2 | exact fR0 | exact fR1) rfl ?_; refine Ops.ld1A rfl rfl rfl rfl rfl (by with_reducible first | exact lInt | exact lNat | exact lBool | exact lInts) rfl ?_; refine Ops.pickF rfl rfl rfl rfl ?_; refine Ops.assign rfl rfl rfl ?_; refine Ops.nil (hK _ _ ?_); clear hK K; refine Fin.then ?_; refine St.ret ?_)
  refine Fin.ret [_] rfl (AllRes.tmp rfl AllRes.nil) (by rw [tf_neg, decide_eq_false (show ¬ m < 0 by omega)]; rfl) rfl
theorem gomultipliers1 : InGo Try.prog 65 := InGo.of Try.func65 (by kernel_rfl) (by kernel_rfl)

theorem multipliers_tw (rs : List Rw) (ys : List Int) (hl : ys.length = rs.length) (h64 : rs.length ≤ 64) (hy : ∀ y ∈ ys, 0 ≤ y ∧ y ≤ 1000) : Ok Try.prog 39 [rowsC rs, twsC ys] (boolC true) := by
  have hC := ContainsFunc_fracs (ys.map tf) _ (fun _ => false) gomultipliers1 (fun f hf => by
    obtain ⟨m, hm, rfl⟩ := List.mem_map.mp hf
    exact multipliers1_tw m (by have := hy m hm; unfold Tb; omega) (hy m hm).1) (by simp; omega)
  rw [← twsC_eq, show (ys.map tf).any (fun _ => false) = false by simp] at hC
  refine Ok.enter Try.func39 rfl _ Try.ntmps39 rfl ?_
  intro S w
  (refine St.seq ?_; refine St.regionK (fun K hK => ?_); refine Ops.assign rfl rfl rfl ?_; refine Ops.nil (hK _ _ ?_); clear hK K; refine Fin.then ?_; refine St.seq ?_; refine St.regionK (fun K hK => ?_); refine Ops.move rfl rfl rfl ?_; refine Ops.lenF rfl rfl (by with_reducible first | exact sFracs.und | exact sRows.und) (List.length_map ..) rfl ?_; refine Ops.move rfl rfl rfl ?_; refine Ops.lenF rfl rfl (by with_reducible first | exact sFracs.und | exact sRows.und) (List.length_map ..) rfl ?_; refine Ops.ibin ieql rfl rfl rfl rfl ?_; refine Ops.move rfl rfl rfl ?_)
  rw [decide_eq_true (show (ys.length : Int) = rs.length by omega)]
  (refine Ops.move rfl rfl rfl ?_)
  refine Ops.call goContainsFunc_fracs hC rfl rfl rfl rfl ?_
  (refine Ops.inot rfl rfl rfl ?_; refine Ops.pickT rfl rfl rfl rfl ?_; refine Ops.assign rfl rfl rfl ?_; refine Ops.nil (hK _ _ ?_); clear hK K; refine Fin.then ?_; refine St.ret ?_)
  refine Fin.ret [_] rfl (AllRes.tmp rfl AllRes.nil) rfl rfl
theorem gomultipliers : InGo Try.prog 39 := InGo.of Try.func39 (by kernel_rfl) (by kernel_rfl)

theorem take_map_succ {α β : Type} (f : α → β) (z : α) {xs : List α} {i : Nat} (h : i < xs.length) : (xs.take (i + 1)).map f = (xs.take i).map f ++ [f (xs.getD i z)] := by
  rw [List.take_succ_eq_append_getElem h, List.map_append]
  simp [List.getD_eq_getElem?_getD, List.getElem?_eq_getElem h]

set_option maxHeartbeats 4000000 in
theorem fold_tw (rs : List Rw) (ys : List Int) (f : FuncId) (caps : List CT) (num : Rw → Int) (hgo : InGo Try.prog f) (hf : ∀ r ∈ rs, Ok Try.prog f ([rowC r] ++ caps) (intC (num r))) (hl : rs.length ≤ 64) (hly : ys.length ≤ 64) (hn : ∀ r ∈ rs, (num r).natAbs ≤ 9007199254740992) (hy : ∀ y ∈ ys, y.natAbs ≤ 1000) :
    Ok Try.prog 52 [rowsC rs, twsC ys, .fr (closT f caps)] (.fr (tupT [twC (dot (rs.map num) ys), intC 0])) := by
  refine Ok.enter Try.func52 rfl _ Try.ntmps52 rfl ?_
  intro S w
  (refine St.seq ?_; refine St.regionK (fun K hK => ?_); refine Ops.alloc 0 rfl rfl (by with_reducible first | exact zvFrac) rfl rfl rfl ?_; refine Ops.assign rfl rfl rfl ?_; refine Ops.nil (hK _ _ ?_); clear hK K; refine Fin.then ?_; refine St.seq ?_; refine St.regionK (fun K hK => ?_); refine Ops.assign rfl rfl rfl ?_; refine Ops.nil (hK _ _ ?_); clear hK K; refine Fin.then ?_; refine St.seq ?_; refine St.seq ?_; refine St.regionK (fun K hK => ?_); refine Ops.move rfl rfl rfl ?_; refine Ops.lenF rfl rfl (by with_reducible first | exact sFracs.und | exact sRows.und) (List.length_map ..) rfl ?_; refine Ops.move rfl rfl rfl ?_; refine Ops.nil (hK _ _ ?_); clear hK K; refine Fin.then ?_; refine St.block ?_)
  refine St.nilRow 8 1 3 1 rfl rfl rfl ?_
  skip
  refine St.loop (α := Nat) (fun i => i ≤ rs.length)
    (fun i => [(1, .ct (twsC ys)), (2, .ct (.fr (closT f caps))), (6, .own 0), (8, .own 1), (11, .ct (rowsC rs)), (12, .ct (intC rs.length)), (13, .ct (intC i))])
    (fun i => [(1, .row 3 1 (ints ((rs.take i).map num))), (0, .box 34 [.ex (.bool false), .ex (.slice none 0 0), .ex (.slice none 0 0)])]) (fun i => rs.length - i) 0 (Nat.zero_le _) (by exact Entails.of rfl ⟨rfl, rfl, rfl, rfl, rfl, rfl, rfl, trivial⟩) ?_
  intro i hi
  dsimp only at hi ⊢
  (refine St.seq ?_; refine St.regionK (fun K hK => ?_); refine Ops.ibin ilss rfl rfl rfl rfl ?_; refine Ops.nil (hK _ _ ?_); clear hK K; refine Fin.then ?_; refine St.seq ?_)
  refine St.condP rfl (fun h => ?_) (fun h => ?_)
  · have e2 : (i : Int).toNat = i := Int.toNat_natCast i
    have hlt : i < rs.length := by omega
    (refine St.skip ?_; refine Fin.then ?_; refine St.seq ?_; refine St.block ?_; refine St.seq ?_; refine St.regionK (fun K hK => ?_); refine Ops.idxF rfl rfl rfl (by with_reducible exact sRows) (by omega) (rows_at (by omega) (by omega)) rfl ?_; refine Ops.ldNF (n := 2) rfl rfl rfl (by with_reducible exact lRow) rfl rfl ?_; refine Ops.alloc 2 rfl rfl (by with_reducible exact zvRow) rfl rfl rfl ?_; refine Ops.stWN 2 rfl rfl rfl rfl rfl (by with_reducible exact szRow) rfl rfl ?_; refine Ops.nil (hK _ _ ?_); clear hK K; refine Fin.then ?_; refine St.regionK (fun K hK => ?_); refine Ops.move rfl rfl rfl ?_; refine Ops.move rfl rfl rfl ?_; refine Ops.ldNO (n := 2) rfl rfl rfl rfl rfl (by with_reducible exact lRow) rfl ?_)
    rw [e2]
    skip
    refine Ops.callC hgo rfl (hf (rs.getD i rw0) (getD_mem hlt)) rfl rfl rfl rfl ?_
    refine Ops.lit1 rfl rfl (by with_reducible exact sInts) rfl rfl rfl ?_
    refine Ops.append1 i (ints ((rs.take (i + 1)).map num)) rfl rfl rfl rfl (by with_reducible exact sInts) (by simp [ints]; omega) rfl (by omega) (by omega) (by rw [take_map_succ num rw0 hlt]; simp [ints]) rfl ?_
    (refine Ops.assign rfl rfl rfl ?_; refine Ops.nil (hK _ _ ?_); clear hK K; refine Fin.then ?_; refine St.regionK (fun K hK => ?_); refine Ops.ibin (iadd (by omega) (by omega)) rfl rfl rfl rfl ?_; refine Ops.move rfl rfl rfl ?_; refine Ops.nil (hK _ _ ?_); clear hK K; refine Fin.thenN ?_)
    refine Fin.dropB 2 ?_
    refine Fin.next (i + 1) (by omega) (by omega) (by exact Entails.of rfl ⟨rfl, rfl, rfl, rfl, rfl, rfl, by simp only [Int.natCast_add]; rfl, trivial⟩)
  · have hi' : i = rs.length := by omega
    have e : (rs.take i).map num = rs.map num := by rw [hi', List.take_length]
    rw [e]
    refine St.freeze 1 _ rfl (ints_frozen _ _) noBor_sub ?_
    (refine St.exit ?_; refine Fin.then ?_; refine St.seq ?_; refine St.regionK (fun K hK => ?_); refine Ops.move rfl rfl rfl ?_; refine Ops.move rfl rfl rfl ?_)
    refine Ops.call goValue (Value_tw (rs.map num) ys (by simp; omega) hly (fun y hy' => by
      obtain ⟨r, hr, rfl⟩ := List.mem_map.mp hy'
      exact hn r hr) hy) rfl rfl rfl rfl ?_
    (refine Ops.extract rfl rfl rfl rfl ?_; refine Ops.extract rfl rfl rfl rfl ?_; refine Ops.stWN 3 rfl rfl rfl rfl rfl (by with_reducible exact szFrac) rfl rfl ?_; refine Ops.assign rfl rfl rfl ?_; refine Ops.nil (hK _ _ ?_); clear hK K; refine Fin.then ?_; refine St.ret ?_)
    refine Fin.ret [_, _] rfl (AllRes.cellN (n := 3) rfl rfl (by with_reducible exact lFrac) rfl (AllRes.tmp rfl AllRes.nil)) rfl rfl
theorem gofold : InGo Try.prog 52 := InGo.of Try.func52 (by kernel_rfl) (by kernel_rfl)

theorem Combine1_ok (j : Nat) (r : Rw) : Ok Try.prog 53 ([rowC r] ++ [.fr (ptrT [intC j])]) (intC (r.cs.getD j 0)) := by
  refine Ok.enter Try.func53 rfl _ Try.ntmps53 rfl ?_
  intro S w
  (refine St.seq ?_; refine St.regionK (fun K hK => ?_); refine Ops.boxN 0 rfl rfl rfl rfl rfl rfl rfl ?_; refine Ops.assign rfl rfl rfl ?_; refine Ops.nil (hK _ _ ?_); clear hK K; refine Fin.then ?_; refine St.seq ?_; refine St.seq ?_; refine St.regionK (fun K hK => ?_); refine Ops.ld1F rfl rfl rfl (by with_reducible first | exact lInt | exact lNat | exact lBool | exact lInts) rfl ?_; refine Ops.fldO rfl rfl rfl (by with_reducible first | exact fF0 | exact fF1 | exact fF2 | exact fR0 | exact fR1) rfl ?_; refine Ops.ld1A rfl rfl rfl rfl rfl (by with_reducible first | exact lInt | exact lNat | exact lBool | exact lInts) rfl ?_; refine Ops.lenF rfl rfl (by with_reducible first | exact sNat.und | exact sInts.und) (List.length_map ..) rfl ?_; refine Ops.ibin ilss rfl rfl rfl rfl ?_; refine Ops.nil (hK _ _ ?_); clear hK K; refine Fin.then ?_)
  refine St.condP rfl (fun h => ?_) (fun h => ?_)
  · have e2 : (j : Int).toNat = j := Int.toNat_natCast j
    (refine St.seq ?_; refine St.regionK (fun K hK => ?_); refine Ops.fldO rfl rfl rfl (by with_reducible first | exact fF0 | exact fF1 | exact fF2 | exact fR0 | exact fR1) rfl ?_; refine Ops.ld1A rfl rfl rfl rfl rfl (by with_reducible first | exact lInt | exact lNat | exact lBool | exact lInts) rfl ?_; refine Ops.ld1F rfl rfl rfl (by with_reducible first | exact lInt | exact lNat | exact lBool | exact lInts) rfl ?_; refine Ops.idxF rfl rfl rfl (by with_reducible first | exact sNat | exact sInts) (by omega) (ints_at (by omega) (by omega)) rfl ?_; refine Ops.ld1F rfl rfl rfl (by with_reducible first | exact lInt | exact lNat | exact lBool | exact lInts) rfl ?_; refine Ops.assign rfl rfl rfl ?_; refine Ops.nil (hK _ _ ?_); clear hK K; refine Fin.then ?_; refine St.ret ?_; refine Fin.thenRet ?_)
    rw [e2]
    skip
    refine Fin.ret [_] rfl (AllRes.tmp rfl AllRes.nil) rfl rfl
  · (refine St.skip ?_; refine Fin.then ?_; refine St.seq ?_; refine St.regionK (fun K hK => ?_); refine Ops.assign rfl rfl rfl ?_; refine Ops.nil (hK _ _ ?_); clear hK K; refine Fin.then ?_; refine St.ret ?_)
    refine Fin.ret [_] rfl (AllRes.tmp rfl AllRes.nil) (by rw [List.getD_eq_getElem?_getD, List.getElem?_eq_none (by omega)]; rfl) rfl
theorem goCombine1 : InGo Try.prog 53 := InGo.of Try.func53 (by kernel_rfl) (by kernel_rfl)
theorem Combine2_ok (r : Rw) : Ok Try.prog 54 [rowC r] (intC r.b) := by
  refine Ok.enter Try.func54 rfl _ Try.ntmps54 rfl ?_
  intro S w
  (refine St.seq ?_; refine St.regionK (fun K hK => ?_); refine Ops.boxN 0 rfl rfl rfl rfl rfl rfl rfl ?_; refine Ops.assign rfl rfl rfl ?_; refine Ops.nil (hK _ _ ?_); clear hK K; refine Fin.then ?_; refine St.seq ?_; refine St.regionK (fun K hK => ?_); refine Ops.fldO rfl rfl rfl (by with_reducible first | exact fF0 | exact fF1 | exact fF2 | exact fR0 | exact fR1) rfl ?_; refine Ops.ld1A rfl rfl rfl rfl rfl (by with_reducible first | exact lInt | exact lNat | exact lBool | exact lInts) rfl ?_; refine Ops.assign rfl rfl rfl ?_; refine Ops.nil (hK _ _ ?_); clear hK K; refine Fin.then ?_; refine St.ret ?_)
  refine Fin.ret [_] rfl (AllRes.tmp rfl AllRes.nil) rfl rfl
theorem goCombine2 : InGo Try.prog 54 := InGo.of Try.func54 (by kernel_rfl) (by kernel_rfl)

end Go.Proofs.Ytgpkpmhdfcopgaa
