/-
  Walks: slices.Grow, slices.Concat, versions.Compare, valid, Apply, Invert, Join, Same.
-/
import Derived.Test.YtkeoejfbbmdloaaV7
import Derived.Test.YtkeoejfbbmdloaaV3b
namespace Go.Proofs.Ytkeoejfbbmdloaa
open Go.Own
attribute [local irreducible] St Ops Go.Own.Fin Ok OkB OkN OkT OkL OkF

theorem sLists : SlcT Try.prog 80 26 1 24 (.slice none 0 0) := SlcT.of Try.underlying80 (by kernel_rfl) rfl (by decide)
theorem zvAtlas : (Try.prog.info? 35).map (·.zero) = some (some (.agg #[.slice none 0 0, .slice none 0 0, .slice none 0 0, .slice none 0 0])) := by kernel_rfl
theorem lAtlas : LdN Try.prog 35 4 := LdN.of _ Try.underlying35 rfl (by kernel_rfl)
theorem szAtlas : (Try.prog.info? 35).map (·.size) = some 4 := by kernel_rfl
theorem fA0 : fldInfo Try.prog 35 0 = some (0, some 1) := by kernel_rfl
theorem bAtlas : bInfo Try.prog 35 = some (.agg #[.slice none 0 0, .slice none 0 0, .slice none 0 0, .slice none 0 0], [(0, some 1), (1, some 3)]) := by kernel_rfl
theorem zvDiff : (Try.prog.info? 37).map (·.zero) = some (some (.agg #[.slice none 0 0, .slice none 0 0])) := by kernel_rfl
theorem lDiff : LdN Try.prog 37 2 := LdN.of _ Try.underlying37 rfl (by kernel_rfl)
theorem szDiff : (Try.prog.info? 37).map (·.size) = some 2 := by kernel_rfl
theorem fD0 : fldInfo Try.prog 37 0 = some (0, some 1) := by kernel_rfl
theorem fD1 : fldInfo Try.prog 37 1 = some (1, some 1) := by kernel_rfl
theorem bDiff : bInfo Try.prog 37 = some (.agg #[.slice none 0 0, .slice none 0 0], [(0, some 1), (1, some 1)]) := by kernel_rfl

abbrev nilC : CT := .ex (.slice none 0 0)
abbrev atCs (l : List Cl) : List CT := [clsC l, nilC, nilC, nilC]
/-- A map with these claims. -/
abbrev atC (l : List Cl) : CT := .fr (aggT (atCs l))
abbrev dfCs (g m : List Cl) : List CT := [clsC g, clsC m]
/-- A difference. -/
abbrev dfC (g m : List Cl) : CT := .fr (aggT (dfCs g m))
abbrev lsC (ls : List (List Cl)) : CT := .fr (sliceT 1 (ls.map fun l => [clsC l]))

theorem goGrow : InGo Try.prog 41 := InGo.of Try.func41 rfl (by decide)
theorem Grow_ok (n : Nat) (h : n ≤ 1000) : OkF Try.prog 41 [nilC, intC n] 52 7 [] := by
  refine OkF.enter Try.func41 rfl _ Try.ntmps41 rfl ?_
  intro S w
  (refine St.seq ?_; refine St.regionK (fun K hK => ?_); refine Ops.assign rfl rfl rfl ?_; refine Ops.nil (hK _ _ ?_); clear hK K; refine Fin.then ?_; refine St.seq ?_; refine St.seq ?_; refine St.regionK (fun K hK => ?_); refine Ops.move rfl rfl rfl ?_; refine Ops.ibin ilss rfl rfl rfl rfl ?_; refine Ops.nil (hK _ _ ?_); clear hK K; refine Fin.then ?_; refine St.condF rfl ?_; refine St.skip ?_; refine Fin.then ?_; refine St.seq ?_; refine St.seq ?_; refine St.regionK (fun K hK => ?_); refine Ops.move rfl rfl rfl ?_; refine Ops.move rfl rfl rfl ?_)
  refine Ops.capNil rfl rfl (by with_reducible exact sClaims.und) rfl ?_
  (refine Ops.move rfl rfl rfl ?_)
  refine Ops.lenNil rfl rfl (by with_reducible exact sClaims.und) rfl ?_
  (refine Ops.ibin (isub (by omega) (by omega)) rfl rfl rfl rfl ?_; refine Ops.ibin (isub (by omega) (by omega)) rfl rfl rfl rfl ?_; refine Ops.assign rfl rfl rfl ?_; refine Ops.nil (hK _ _ ?_); clear hK K; refine Fin.then ?_; refine St.seq ?_; refine St.regionK (fun K hK => ?_); refine Ops.move rfl rfl rfl ?_; refine Ops.ibin igtr rfl rfl rfl rfl ?_; refine Ops.nil (hK _ _ ?_); clear hK K; refine Fin.then ?_)
  refine St.condP rfl (fun h1 => ?_) (fun h1 => ?_)
  · (refine St.regionK (fun K hK => ?_); refine Ops.move rfl rfl rfl ?_; refine Ops.move rfl rfl rfl ?_)
    refine Ops.capNil rfl rfl (by with_reducible exact sClaims.und) rfl ?_
    refine Ops.cutNil rfl rfl rfl (by with_reducible exact sClaims) rfl ?_
    (refine Ops.move rfl rfl rfl ?_)
    refine Ops.appZ 0 n rfl rfl rfl (by omega) (by omega) (by with_reducible exact sClaims) (by with_reducible exact uInt') (by omega) (by omega) rfl rfl rfl ?_
    (refine Ops.move rfl rfl rfl ?_)
    refine Ops.lenNil rfl rfl (by with_reducible exact sClaims.und) rfl ?_
    refine Ops.cutR n rfl rfl rfl rfl (by with_reducible exact sClaims) (zinit_len sClaims n) (by decide) (by omega) (by omega) rfl ?_
    (refine Ops.assign rfl rfl rfl ?_; refine Ops.nil (hK _ _ ?_); clear hK K; refine Fin.then ?_; refine St.seq ?_; refine St.regionK (fun K hK => ?_); refine Ops.move rfl rfl rfl ?_; refine Ops.assign rfl rfl rfl ?_; refine Ops.nil (hK _ _ ?_); clear hK K; refine Fin.then ?_; refine St.ret ?_)
    refine Fin.retF rfl rfl rfl rfl
  · (refine St.skip ?_; refine Fin.then ?_; refine St.seq ?_; refine St.regionK (fun K hK => ?_); refine Ops.move rfl rfl rfl ?_; refine Ops.assign rfl rfl rfl ?_; refine Ops.nil (hK _ _ ?_); clear hK K; refine Fin.then ?_; refine St.ret ?_)
    refine Fin.nilRow 4 0 52 7 rfl rfl rfl ?_
    refine Fin.retF rfl rfl rfl rfl

theorem ls_at {ls : List (List Cl)} {j : Int} (h0 : 0 ≤ j) (h : j < (ls.length : Int)) : (ls.map fun l => [clsC l])[j.toNat]? = some [clsC (ls.getD j.toNat [])] := by
  have : j.toNat < ls.length := by omega
  simp [List.getElem?_map, List.getElem?_eq_getElem this, List.getD_eq_getElem?_getD]
theorem ls_take {ls : List (List Cl)} {i : Nat} (h : i < ls.length) : (ls.take (i + 1)).flatten = (ls.take i).flatten ++ ls.getD i [] := by
  rw [List.take_add_one, List.getElem?_eq_getElem h, List.flatten_append, List.getD_eq_getElem?_getD, List.getElem?_eq_getElem h]; simp
theorem ls_le (ls : List (List Cl)) (i : Nat) : (ls.take i).flatten.length ≤ ls.flatten.length := by
  conv => rhs; rw [← List.take_append_drop i ls, List.flatten_append, List.length_append]
  omega
theorem goConcat : InGo Try.prog 27 := InGo.of Try.func27 rfl (by decide)
set_option maxHeartbeats 4000000 in
theorem Concat_ok (ls : List (List Cl)) (h1 : ls.length ≤ 100) (h2 : ls.flatten.length ≤ 1000) : Ok Try.prog 27 [lsC ls] (clsC ls.flatten) := by
  refine Ok.enter Try.func27 rfl _ Try.ntmps27 rfl ?_
  intro S w
  (refine St.seq ?_; refine St.regionK (fun K hK => ?_); refine Ops.assign rfl rfl rfl ?_; refine Ops.nil (hK _ _ ?_); clear hK K; refine Fin.then ?_; refine St.seq ?_; refine St.regionK (fun K hK => ?_); refine Ops.assign rfl rfl rfl ?_; refine Ops.nil (hK _ _ ?_); clear hK K; refine Fin.then ?_; refine St.seq ?_; refine St.seq ?_; refine St.regionK (fun K hK => ?_); refine Ops.move rfl rfl rfl ?_; refine Ops.lenF rfl rfl (by with_reducible first | exact sClaims.und | exact sInts.und | exact sLists.und) (List.length_map ..) rfl ?_; refine Ops.move rfl rfl rfl ?_; refine Ops.nil (hK _ _ ?_); clear hK K; refine Fin.then ?_; refine St.block ?_)
  refine St.loop (α := Nat) (fun i => i ≤ ls.length)
    (fun i => [(0, .ct (lsC ls)), (3, .ct (intC (ls.take i).flatten.length)), (9, .ct (lsC ls)), (10, .ct (intC ls.length)), (11, .ct (intC i))]) (fun _ => []) (fun i => ls.length - i) 0 (Nat.zero_le _) (by exact Entails.of rfl ⟨rfl, rfl, rfl, rfl, rfl, trivial⟩) ?_
  intro i hi
  try dsimp only at hi
  try dsimp only
  (refine St.seq ?_; refine St.regionK (fun K hK => ?_); refine Ops.ibin ilss rfl rfl rfl rfl ?_; refine Ops.nil (hK _ _ ?_); clear hK K; refine Fin.then ?_; refine St.seq ?_)
  refine St.condP rfl (fun h => ?_) (fun h => ?_)
  · have e2 : (i : Int).toNat = i := by omega
    have ht := ls_take (ls := ls) (i := i) (by omega)
    have hle := ls_le ls (i + 1)
    rw [ht, List.length_append] at hle
    (refine St.skip ?_; refine Fin.then ?_; refine St.seq ?_; refine St.block ?_; refine St.seq ?_; refine St.regionK (fun K hK => ?_))
    refine Ops.idxF rfl rfl rfl (by with_reducible exact sLists) (by omega) (ls_at (by omega) (by omega)) rfl ?_
    rw [e2]
    generalize ls.getD i [] = m at ht hle
    (refine Ops.ld1F rfl rfl rfl (by with_reducible first | exact lInt | exact lClaims) rfl ?_; refine Ops.assign rfl rfl rfl ?_; refine Ops.nil (hK _ _ ?_); clear hK K; refine Fin.then ?_; refine St.seq ?_; refine St.regionK (fun K hK => ?_); refine Ops.move rfl rfl rfl ?_; refine Ops.move rfl rfl rfl ?_; refine Ops.lenF rfl rfl (by with_reducible first | exact sClaims.und | exact sInts.und | exact sLists.und) (List.length_map ..) rfl ?_; refine Ops.ibin (iadd (by omega) (by omega)) rfl rfl rfl rfl ?_; refine Ops.assign rfl rfl rfl ?_; refine Ops.nil (hK _ _ ?_); clear hK K; refine Fin.then ?_; refine St.seq ?_; refine St.regionK (fun K hK => ?_); refine Ops.move rfl rfl rfl ?_; refine Ops.ibin ilss rfl rfl rfl rfl ?_; refine Ops.nil (hK _ _ ?_); clear hK K; refine Fin.then ?_; refine St.condF rfl ?_; refine St.skip ?_; refine Fin.then ?_; refine St.regionK (fun K hK => ?_); refine Ops.ibin (iadd (by omega) (by omega)) rfl rfl rfl rfl ?_; refine Ops.move rfl rfl rfl ?_; refine Ops.nil (hK _ _ ?_); clear hK K; refine Fin.thenN ?_)
    refine Fin.next (i + 1) (by omega) (by omega) (by rw [ht, List.length_append]; exact Entails.of rfl ⟨rfl, by simp only [Int.natCast_add]; rfl, rfl, rfl, by simp only [Int.natCast_add]; rfl, trivial⟩)
  · have hi' : i = ls.length := by omega
    rw [hi', List.take_length]
    (refine St.exit ?_; refine Fin.then ?_; refine St.seq ?_; refine St.regionK (fun K hK => ?_); refine Ops.move rfl rfl rfl ?_)
    refine Ops.callFr 0 goGrow (Grow_ok ls.flatten.length h2) rfl rfl rfl rfl rfl rfl ?_
    (refine Ops.assign rfl rfl rfl ?_; refine Ops.nil (hK _ _ ?_); clear hK K; refine Fin.then ?_; refine St.seq ?_; refine St.seq ?_; refine St.regionK (fun K hK => ?_); refine Ops.move rfl rfl rfl ?_; refine Ops.lenF rfl rfl (by with_reducible first | exact sClaims.und | exact sInts.und | exact sLists.und) (List.length_map ..) rfl ?_; refine Ops.move rfl rfl rfl ?_; refine Ops.nil (hK _ _ ?_); clear hK K; refine Fin.then ?_; refine St.block ?_)
    refine St.loop (α := Nat) (fun i => i ≤ ls.length)
      (fun i => [(6, .own 0), (25, .ct (lsC ls)), (26, .ct (intC ls.length)), (27, .ct (intC i))]) (fun i => [(0, .row 52 7 (cls (ls.take i).flatten))]) (fun i => ls.length - i) 0 (Nat.zero_le _) (by exact Entails.of rfl ⟨rfl, rfl, rfl, rfl, trivial⟩) ?_
    intro j hj
    try dsimp only at hj
    try dsimp only
    (refine St.seq ?_; refine St.regionK (fun K hK => ?_); refine Ops.ibin ilss rfl rfl rfl rfl ?_; refine Ops.nil (hK _ _ ?_); clear hK K; refine Fin.then ?_; refine St.seq ?_)
    refine St.condP rfl (fun h => ?_) (fun h => ?_)
    · have e2 : (j : Int).toNat = j := by omega
      have ht := ls_take (ls := ls) (i := j) (by omega)
      have hle := ls_le ls (j + 1)
      rw [ht, List.length_append] at hle
      (refine St.skip ?_; refine Fin.then ?_; refine St.seq ?_; refine St.block ?_; refine St.seq ?_; refine St.regionK (fun K hK => ?_))
      refine Ops.idxF rfl rfl rfl (by with_reducible exact sLists) (by omega) (ls_at (by omega) (by omega)) rfl ?_
      rw [e2]
      generalize ls.getD j [] = m at ht hle
      (refine Ops.ld1F rfl rfl rfl (by with_reducible first | exact lInt | exact lClaims) rfl ?_; refine Ops.assign rfl rfl rfl ?_; refine Ops.nil (hK _ _ ?_); clear hK K; refine Fin.then ?_; refine St.regionK (fun K hK => ?_); refine Ops.move rfl rfl rfl ?_; refine Ops.move rfl rfl rfl ?_)
      refine Ops.append (ls.take j).flatten.length (cls ((ls.take j).flatten ++ m)) rfl rfl rfl rfl (by with_reducible exact sClaims) (cls_len _) (cls_ones m) (by rw [List.length_map]; omega) (by rw [List.length_map]; omega) (cls_app _ _) rfl ?_
      (refine Ops.assign rfl rfl rfl ?_; refine Ops.nil (hK _ _ ?_); clear hK K; refine Fin.then ?_; refine St.regionK (fun K hK => ?_); refine Ops.ibin (iadd (by omega) (by omega)) rfl rfl rfl rfl ?_; refine Ops.move rfl rfl rfl ?_; refine Ops.nil (hK _ _ ?_); clear hK K; refine Fin.thenN ?_)
      refine Fin.next (j + 1) (by omega) (by omega) (by rw [ht]; exact Entails.of rfl ⟨rfl, rfl, rfl, by simp only [Int.natCast_add]; rfl, trivial⟩)
    · have hj' : j = ls.length := by omega
      rw [hj', List.take_length]
      refine St.freeze 0 _ rfl (cls_frozen _ _) noBor_sub ?_
      (refine St.exit ?_; refine Fin.then ?_; refine St.seq ?_; refine St.regionK (fun K hK => ?_); refine Ops.move rfl rfl rfl ?_; refine Ops.assign rfl rfl rfl ?_; refine Ops.nil (hK _ _ ?_); clear hK K; refine Fin.then ?_; refine St.ret ?_)
      refine Fin.ret [_] rfl (AllRes.tmp rfl AllRes.nil) rfl rfl
end Go.Proofs.Ytkeoejfbbmdloaa
