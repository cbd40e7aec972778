/-
  Walk: routescopelaw40.VersionsJoin returns true.
-/
import Derived.Test.YtkeoejfbbmdloaaV12
import Derived.Test.YtkeoejfbbmdloaaK21
import Derived.Test.YtkeoejfbbmdloaaL5
namespace Go.Proofs.Ytkeoejfbbmdloaa
open Go.Own
attribute [local irreducible] St Ops Go.Own.Fin Ok OkB OkN OkT OkL OkF

abbrev nilV : Value := .slice none 0 0
theorem aAtl : ArrT Try.prog 45 35 3 4 (.agg #[nilV, nilV, nilV, nilV, nilV, nilV, nilV, nilV, nilV, nilV, nilV, nilV]) := ⟨Try.underlying45, by kernel_rfl, by kernel_rfl⟩
abbrev at3 (a b c : List Cl) : List CT := [clsC a, nilC, nilC, nilC, clsC b, nilC, nilC, nilC, clsC c, nilC, nilC, nilC]
theorem St.weakB {X : Ctx} {L : AL} {B : BL} {c : Code} {Q : Exit → Act → World → Prop} (i : Nat) {tt : Nat} {cs : List CT} (ds : List CT) (hi : bget B i = some (.box tt cs)) (hw : argW cs ds) (h : St X L (bset B i (.box tt ds)) c Q) : St X L B c Q := by
  unfold St Go.Own.Fin at *
  intro a ρ w hI
  refine h a ρ w (hI.retype hi ?_ rfl)
  obtain ⟨gb, vs, h1, h2, h3⟩ := (hI.ent i _ hi).1
  exact ⟨gb, vs, h1, h2, hw.cells h3⟩
theorem good0 : Good 10 [] := ⟨trivial, (fun c hc => by cases hc), by decide⟩
theorem w_none : ∀ S w v, (CT.fr (aggT [nilC, nilC])).p S w v → (dfC [] []).p S w v := fun S w v ⟨vs, h1, h2⟩ => ⟨vs, h1, argW.cells (As' := [nilC, nilC]) (As := dfCs [] []) ⟨w_nil, w_nil, trivial⟩ h2⟩

set_option maxHeartbeats 16000000 in
theorem VersionsJoin_ok (bs : List Int) (hb : ∀ b ∈ bs, 0 ≤ b ∧ b < 256) : Ok Try.prog 4 [bytesC bs] (boolC true) := by
  refine Ok.enter Try.func4 rfl _ Try.ntmps4 rfl ?_
  intro S w
  have hB : Bytes (bs.take 400) := ⟨fun b h => (hb b (List.mem_of_mem_take h)).1, fun b h => (hb b (List.mem_of_mem_take h)).2, by simp; omega⟩
  have hRoll := Roll_ok bs
  generalize bs.take 400 = B0 at hB hRoll
  (refine St.seq ?_; refine St.regionK (fun K hK => ?_); refine Ops.assign rfl rfl rfl ?_; refine Ops.nil (hK _ _ ?_); clear hK K; refine Fin.then ?_; refine St.seq ?_; refine St.seq ?_; refine St.regionK (fun K hK => ?_))
  refine Ops.call goVawake Vawake_ok rfl rfl rfl rfl ?_
  (refine Ops.inot rfl rfl rfl ?_; refine Ops.nil (hK _ _ ?_); clear hK K; refine Fin.then ?_; refine St.condF rfl ?_; refine St.skip ?_; refine Fin.then ?_; refine St.seq ?_; refine St.regionK (fun K hK => ?_); refine Ops.move rfl rfl rfl ?_)
  refine Ops.callN 0 goRoll hRoll rfl rfl rfl rfl rfl rfl ?_
  (refine Ops.assign rfl rfl rfl ?_; refine Ops.nil (hK _ _ ?_); clear hK K; refine Fin.then ?_; refine St.seq ?_; refine St.regionK (fun K hK => ?_))
  refine Ops.alloc 1 rfl rfl (by with_reducible exact aAtl.zero) rfl rfl rfl ?_
  (refine Ops.nil (hK _ _ ?_); clear hK K; refine Fin.then ?_; refine St.seq ?_; refine St.seq ?_; refine St.regionK (fun K hK => ?_); refine Ops.move rfl rfl rfl ?_; refine Ops.nil (hK _ _ ?_); clear hK K; refine Fin.then ?_; refine St.block ?_)
  refine St.weakB 1 (at3 [] [] []) rfl ⟨w_nil, w_same, w_same, w_same, w_nil, w_same, w_same, w_same, w_nil, w_same, w_same, w_same, trivial⟩ ?_
  refine St.loop (α := Nat × List Cl × List Cl × List Cl × Nat) (fun x => x.1 ≤ 3 ∧ Good 10 x.2.1 ∧ Good 10 x.2.2.1 ∧ Good 10 x.2.2.2.1)
    (fun x => [(0, .ct (bytesC bs)), (3, .own 0), (4, .own 1), (12, .ct (intC x.1))]) (fun x => [(1, .box 45 (at3 x.2.1 x.2.2.1 x.2.2.2.1)), (0, .box 69 (codes B0 x.2.2.2.2))]) (fun x => 3 - x.1) (0, [], [], [], 0) ⟨by decide, good0, good0, good0⟩ (by exact Entails.of rfl ⟨rfl, rfl, rfl, rfl, trivial⟩) ?_
  rintro ⟨k, a, b, c, p⟩ ⟨hk, ga, gb, gc⟩
  dsimp only at hk ga gb gc ⊢
  (refine St.seq ?_; refine St.regionK (fun K hK => ?_); refine Ops.ibin ilss rfl rfl rfl rfl ?_; refine Ops.nil (hK _ _ ?_); clear hK K; refine Fin.then ?_; refine St.seq ?_)
  refine St.condP rfl (fun h3 => ?_) (fun h3 => ?_)
  · (refine St.skip ?_; refine Fin.then ?_; refine St.seq ?_; refine St.block ?_; refine St.seq ?_; refine St.regionK (fun K hK => ?_); refine Ops.move rfl rfl rfl ?_; refine Ops.assign rfl rfl rfl ?_; refine Ops.nil (hK _ _ ?_); clear hK K; refine Fin.then ?_; refine St.regionK (fun K hK => ?_); refine Ops.move rfl rfl rfl ?_; refine Ops.move rfl rfl rfl ?_)
    refine Ops.callB goClaims (Claims_ok B0 p 10 (by decide) (by decide) hB) rfl rfl rfl rfl rfl (fun q hq => ?_)
    obtain ⟨l1, p1⟩ := q
    obtain ⟨hl1, hu1⟩ := hq
    dsimp only at hl1 hu1 ⊢
    have hs1 := LSorted_ok l1 (by omega) hu1
    have gx := sortC_good l1 [] 10 trivial (fun c hc => by cases hc) (by simp; omega)
    generalize sortC l1 [] = x at hs1 gx
    refine Ops.call goLSorted hs1 rfl rfl rfl rfl ?_
    refine Ops.idxO rfl rfl rfl rfl (by with_reducible exact aAtl) (by omega) (by omega) rfl ?_
    refine Ops.fldA rfl rfl (by with_reducible exact fA0) rfl ?_
    have hk3 : k = 0 ∨ k = 1 ∨ k = 2 := by omega
    rcases hk3 with rfl | rfl | rfl
    · (refine Ops.st1A rfl rfl rfl rfl rfl (by with_reducible first | exact zInt | exact zAddr | exact zClaims) (Nat.le_of_ble_eq_true rfl) ?_; refine Ops.nil (hK _ _ ?_); clear hK K; refine Fin.then ?_; refine St.regionK (fun K hK => ?_); refine Ops.ibin (iadd (by omega) (by omega)) rfl rfl rfl rfl ?_; refine Ops.move rfl rfl rfl ?_; refine Ops.nil (hK _ _ ?_); clear hK K; refine Fin.thenN ?_)
      refine Fin.next (1, x, b, c, p1) (by dsimp only; omega) ⟨by dsimp only; omega, gx, gb, gc⟩ (by exact Entails.of rfl ⟨rfl, rfl, rfl, rfl, trivial⟩)
    · (refine Ops.st1A rfl rfl rfl rfl rfl (by with_reducible first | exact zInt | exact zAddr | exact zClaims) (Nat.le_of_ble_eq_true rfl) ?_; refine Ops.nil (hK _ _ ?_); clear hK K; refine Fin.then ?_; refine St.regionK (fun K hK => ?_); refine Ops.ibin (iadd (by omega) (by omega)) rfl rfl rfl rfl ?_; refine Ops.move rfl rfl rfl ?_; refine Ops.nil (hK _ _ ?_); clear hK K; refine Fin.thenN ?_)
      refine Fin.next (2, a, x, c, p1) (by dsimp only; omega) ⟨by dsimp only; omega, ga, gx, gc⟩ (by exact Entails.of rfl ⟨rfl, rfl, rfl, rfl, trivial⟩)
    · (refine Ops.st1A rfl rfl rfl rfl rfl (by with_reducible first | exact zInt | exact zAddr | exact zClaims) (Nat.le_of_ble_eq_true rfl) ?_; refine Ops.nil (hK _ _ ?_); clear hK K; refine Fin.then ?_; refine St.regionK (fun K hK => ?_); refine Ops.ibin (iadd (by omega) (by omega)) rfl rfl rfl rfl ?_; refine Ops.move rfl rfl rfl ?_; refine Ops.nil (hK _ _ ?_); clear hK K; refine Fin.thenN ?_)
      refine Fin.next (3, a, b, x, p1) (by dsimp only; omega) ⟨by dsimp only; omega, ga, gb, gx⟩ (by exact Entails.of rfl ⟨rfl, rfl, rfl, rfl, trivial⟩)
  obtain ⟨aa, _, la⟩ := ga
  obtain ⟨ab, _, lb⟩ := gb
  obtain ⟨ac, _, lc⟩ := gc
  have hC01 := VCmp_ok a b (by omega) (by omega) (srt_asc aa) (srt_asc ab) aa ab
  have hC12 := VCmp_ok b c (by omega) (by omega) (srt_asc ab) (srt_asc ac) ab ac
  have hC02 := VCmp_ok a c (by omega) (by omega) (srt_asc aa) (srt_asc ac) aa ac
  have j1 := join_law aa ab ac
  have j2 := join_law' aa ab ac
  have w1 := wo_len a b
  have w2 := wo_len b a
  have w3 := wo_len b c
  have w4 := wo_len c b
  have w5 := wo_len a c
  have w6 := wo_len c a
  have n1 := congrArg List.length j1
  have n2 := congrArg List.length j2
  rw [srt_len] at n1 n2
  have x1 : Asc (wo a b) := wo_asc aa
  have x2 : Asc (wo b a) := wo_asc ab
  have x3 : Asc (wo b c) := wo_asc ab
  have x4 : Asc (wo c b) := wo_asc ac
  have x5 : Asc (wo a c) := wo_asc aa
  have x6 : Asc (wo c a) := wo_asc ac
  have hJ := Join_ok (wo a b) (wo b a) (wo b c) (wo c b) (by omega) (by omega) (by omega) (by omega) x1 x2 x3 x4 (srt_asc x1) (srt_asc x2) (srt_asc x3) (srt_asc x4) (by omega) (by omega) (by rw [j1]; exact x5) (by rw [j2]; exact x6)
  rw [j1, j2] at hJ
  have e1 : srt (wo (wo a b) (wo a b) ++ wo (wo b a) (wo b a)) = [] := by rw [wo_self x1, wo_self x2]; exact srt_asc trivial
  have e2 : srt (wo (wo b a) (wo b a) ++ wo (wo a b) (wo a b)) = [] := by rw [wo_self x1, wo_self x2]; exact srt_asc trivial
  have hJ0 := Join_ok (wo a b) (wo b a) (wo b a) (wo a b) (by omega) (by omega) (by omega) (by omega) x1 x2 x2 x1 (srt_asc x1) (srt_asc x2) (srt_asc x2) (srt_asc x1) (by rw [wo_self x1, wo_self x2]; decide) (by rw [wo_self x1, wo_self x2]; decide) (by rw [e1]; trivial) (by rw [e2]; trivial)
  rw [e1, e2] at hJ0
  have hI := Inv_ok (wo a b) (wo b a) (by omega) (by omega)
  have hS1 := Same_refl (wo a c) (wo c a) (by omega) (by omega)
  have hS0 := (Same_refl [] [] (by decide) (by decide)).weak (As' := [dfC [] [], .fr (aggT [nilC, nilC])]) ⟨w_same, w_none, trivial⟩
  clear n1 n2 w1 w2 w3 w4 w5 w6 j1 j2 e1 e2 x1 x2 x3 x4 x5 x6
  generalize wo a b = d1 at *
  generalize wo b a = d2 at *
  generalize wo b c = d3 at *
  generalize wo c b = d4 at *
  generalize wo a c = d5 at *
  generalize wo c a = d6 at *
  (refine St.exit ?_; refine Fin.then ?_; refine St.seq ?_)
  refine St.drawT (by with_reducible exact mixed) 12 (.p 0 (.p 2 (.p 5 (.p 7 (.f 1 (.f 3 (.f 6 (.f 8 (.br 4 (.br 9 (.br 10 (.br 11 (.a 12 (.a 13 .done)) .non) (.br 11 (.br 10 (.a 12 (.a 13 .done)) .non) .non)) (.br 10 (.br 9 (.br 11 (.a 12 (.a 13 .done)) .non) (.br 11 (.br 9 (.a 12 (.a 13 .done)) .non) .non)) (.br 11 (.br 9 (.br 10 (.a 12 (.a 13 .done)) .non) (.br 10 (.br 9 (.a 12 (.a 13 .done)) .non) .non)) .non))) (.br 10 (.br 4 (.br 9 (.br 11 (.a 12 (.a 13 .done)) .non) (.br 11 (.br 9 (.a 12 (.a 13 .done)) .non) .non)) (.br 11 (.br 4 (.br 9 (.a 12 (.a 13 .done)) .non) .non) .non)) (.br 11 (.br 4 (.br 9 (.br 10 (.a 12 (.a 13 .done)) .non) (.br 10 (.br 9 (.a 12 (.a 13 .done)) .non) .non)) (.br 10 (.br 4 (.br 9 (.a 12 (.a 13 .done)) .non) .non) .non)) .non))))))))))) (by kernel_rfl) (fun K hK => ?_)
  refine (fun (cont : ∀ u : Unit, True → Go.Own.Fin _ [(3, .own 0), (4, .own 1), (6, .own 3), (7, .own 4)] [(4, .box 37 (dfCs d3 d4)), (3, .box 37 (dfCs d1 d2)), (1, .box 45 (at3 a b c)), (0, .box 69 (codes B0 p))] K) => ?_) (fun _ _ => hK _ _ ?_)
  rotate_left
  · clear hK K
    (refine Fin.then ?_; refine St.seq ?_)
    refine St.drawK (by with_reducible exact mixed) 18 (.p 3 (.p 5 (.f 0 (.f 1 (.f 4 (.f 6 (.m 2 (.m 7 (.m 8 (.p 9 (.p 14 (.f 10 (.f 11 (.m 12 (.m 13 (.m 15 (.p 16 (.p 17 .done)))))))))))))))))) (by kernel_rfl) (fun K hK => ?_)
    skip
    refine Ops.idxO rfl rfl rfl rfl (by with_reducible exact aAtl) (by decide) (by decide) rfl ?_
    refine Ops.idxO rfl rfl rfl rfl (by with_reducible exact aAtl) (by decide) (by decide) rfl ?_
    (refine Ops.ldNO (n := 2) rfl rfl rfl rfl rfl (by with_reducible exact lDiff) rfl ?_; refine Ops.ldNO (n := 2) rfl rfl rfl rfl rfl (by with_reducible exact lDiff) rfl ?_)
    refine Ops.ldNA (n := 4) rfl rfl rfl rfl (by exact Nat.le_of_ble_eq_true rfl) (by with_reducible exact lAtlas) rfl ?_
    refine Ops.ldNA (n := 4) rfl rfl rfl rfl (by exact Nat.le_of_ble_eq_true rfl) (by with_reducible exact lAtlas) rfl ?_
    refine Ops.call goJoin hJ rfl rfl rfl rfl ?_
    refine Ops.call goVCmp hC02 rfl rfl rfl rfl ?_
    refine Ops.call goSame hS1 rfl rfl rfl rfl ?_
    (refine Ops.move rfl rfl rfl ?_)
    refine Ops.build rfl (by with_reducible exact bDiff) rfl .nil rfl ?_
    (refine Ops.ldNO (n := 2) rfl rfl rfl rfl rfl (by with_reducible exact lDiff) rfl ?_; refine Ops.ldNO (n := 2) rfl rfl rfl rfl rfl (by with_reducible exact lDiff) rfl ?_)
    refine Ops.call goInv hI rfl rfl rfl rfl ?_
    refine Ops.call goJoin hJ0 rfl rfl rfl rfl ?_
    refine Ops.call goSame hS0 rfl rfl rfl rfl ?_
    (refine Ops.pickT rfl rfl rfl rfl ?_; refine Ops.assign rfl rfl rfl ?_; refine Ops.nil (hK _ _ ?_); clear hK K; refine Fin.then ?_; refine St.ret ?_)
    refine Fin.ret [_] rfl (AllRes.tmp rfl AllRes.nil) rfl rfl
  refine Fin.tp ?_
  refine Ops.idxO rfl rfl rfl rfl (by with_reducible exact aAtl) (by decide) (by decide) rfl ?_
  refine Ops.nil ?_
  refine Fin.tp ?_
  refine Ops.idxO rfl rfl rfl rfl (by with_reducible exact aAtl) (by decide) (by decide) rfl ?_
  refine Ops.nil ?_
  refine Fin.tp ?_
  refine Ops.idxO rfl rfl rfl rfl (by with_reducible exact aAtl) (by decide) (by decide) rfl ?_
  refine Ops.nil ?_
  refine Fin.tp ?_
  refine Ops.idxO rfl rfl rfl rfl (by with_reducible exact aAtl) (by decide) (by decide) rfl ?_
  refine Ops.nil ?_
  refine Fin.tf rfl ?_
  refine Ops.ldNA (n := 4) rfl rfl rfl rfl (by exact Nat.le_of_ble_eq_true rfl) (by with_reducible exact lAtlas) rfl ?_
  refine Ops.nil ?_
  refine Fin.tf rfl ?_
  refine Ops.ldNA (n := 4) rfl rfl rfl rfl (by exact Nat.le_of_ble_eq_true rfl) (by with_reducible exact lAtlas) rfl ?_
  refine Ops.nil ?_
  refine Fin.tf rfl ?_
  refine Ops.ldNA (n := 4) rfl rfl rfl rfl (by exact Nat.le_of_ble_eq_true rfl) (by with_reducible exact lAtlas) rfl ?_
  refine Ops.nil ?_
  refine Fin.tf rfl ?_
  refine Ops.ldNA (n := 4) rfl rfl rfl rfl (by exact Nat.le_of_ble_eq_true rfl) (by with_reducible exact lAtlas) rfl ?_
  refine Ops.nil ?_
  refine Fin.tbr ?_ ?_
  · refine Ops.call goVCmp hC01 rfl rfl rfl rfl ?_
    refine Ops.nil ?_
    refine Fin.tbr ?_ ?_
    · refine Ops.call goVCmp hC12 rfl rfl rfl rfl ?_
      refine Ops.nil ?_
      refine Fin.tbr ?_ ?_
      · refine Ops.alloc 3 rfl rfl (by with_reducible exact zvDiff) rfl rfl rfl ?_
        refine Ops.nil ?_
        refine Fin.tbr ?_ ?_
        · refine Ops.alloc 4 rfl rfl (by with_reducible exact zvDiff) rfl rfl rfl ?_
          refine Ops.nil ?_
          refine Fin.ta ?_
          refine Ops.stWN 2 rfl rfl rfl rfl rfl (by with_reducible exact szDiff) rfl rfl ?_
          refine Ops.nil ?_
          refine Fin.ta ?_
          refine Ops.stWN 2 rfl rfl rfl rfl rfl (by with_reducible exact szDiff) rfl rfl ?_
          refine Ops.nil ?_
          refine Fin.tdone ?_
          exact Fin.fam cont () trivial (by exact Entails.of rfl ⟨rfl, rfl, rfl, rfl, trivial⟩)
        exact Fin.tnon
      refine Fin.tbr ?_ ?_
      · refine Ops.alloc 4 rfl rfl (by with_reducible exact zvDiff) rfl rfl rfl ?_
        refine Ops.nil ?_
        refine Fin.tbr ?_ ?_
        · refine Ops.alloc 3 rfl rfl (by with_reducible exact zvDiff) rfl rfl rfl ?_
          refine Ops.nil ?_
          refine Fin.swap rfl ?_
          refine Fin.ta ?_
          refine Ops.stWN 2 rfl rfl rfl rfl rfl (by with_reducible exact szDiff) rfl rfl ?_
          refine Ops.nil ?_
          refine Fin.ta ?_
          refine Ops.stWN 2 rfl rfl rfl rfl rfl (by with_reducible exact szDiff) rfl rfl ?_
          refine Ops.nil ?_
          refine Fin.tdone ?_
          exact Fin.fam cont () trivial (by exact Entails.of rfl ⟨rfl, rfl, rfl, rfl, trivial⟩)
        exact Fin.tnon
      exact Fin.tnon
    refine Fin.tbr ?_ ?_
    · refine Ops.alloc 3 rfl rfl (by with_reducible exact zvDiff) rfl rfl rfl ?_
      refine Ops.nil ?_
      refine Fin.tbr ?_ ?_
      · refine Ops.call goVCmp hC12 rfl rfl rfl rfl ?_
        refine Ops.nil ?_
        refine Fin.tbr ?_ ?_
        · refine Ops.alloc 4 rfl rfl (by with_reducible exact zvDiff) rfl rfl rfl ?_
          refine Ops.nil ?_
          refine Fin.ta ?_
          refine Ops.stWN 2 rfl rfl rfl rfl rfl (by with_reducible exact szDiff) rfl rfl ?_
          refine Ops.nil ?_
          refine Fin.ta ?_
          refine Ops.stWN 2 rfl rfl rfl rfl rfl (by with_reducible exact szDiff) rfl rfl ?_
          refine Ops.nil ?_
          refine Fin.tdone ?_
          exact Fin.fam cont () trivial (by exact Entails.of rfl ⟨rfl, rfl, rfl, rfl, trivial⟩)
        exact Fin.tnon
      refine Fin.tbr ?_ ?_
      · refine Ops.alloc 4 rfl rfl (by with_reducible exact zvDiff) rfl rfl rfl ?_
        refine Ops.nil ?_
        refine Fin.tbr ?_ ?_
        · refine Ops.call goVCmp hC12 rfl rfl rfl rfl ?_
          refine Ops.nil ?_
          refine Fin.ta ?_
          refine Ops.stWN 2 rfl rfl rfl rfl rfl (by with_reducible exact szDiff) rfl rfl ?_
          refine Ops.nil ?_
          refine Fin.ta ?_
          refine Ops.stWN 2 rfl rfl rfl rfl rfl (by with_reducible exact szDiff) rfl rfl ?_
          refine Ops.nil ?_
          refine Fin.tdone ?_
          exact Fin.fam cont () trivial (by exact Entails.of rfl ⟨rfl, rfl, rfl, rfl, trivial⟩)
        exact Fin.tnon
      exact Fin.tnon
    refine Fin.tbr ?_ ?_
    · refine Ops.alloc 4 rfl rfl (by with_reducible exact zvDiff) rfl rfl rfl ?_
      refine Ops.nil ?_
      refine Fin.tbr ?_ ?_
      · refine Ops.call goVCmp hC12 rfl rfl rfl rfl ?_
        refine Ops.nil ?_
        refine Fin.tbr ?_ ?_
        · refine Ops.alloc 3 rfl rfl (by with_reducible exact zvDiff) rfl rfl rfl ?_
          refine Ops.nil ?_
          refine Fin.swap rfl ?_
          refine Fin.ta ?_
          refine Ops.stWN 2 rfl rfl rfl rfl rfl (by with_reducible exact szDiff) rfl rfl ?_
          refine Ops.nil ?_
          refine Fin.ta ?_
          refine Ops.stWN 2 rfl rfl rfl rfl rfl (by with_reducible exact szDiff) rfl rfl ?_
          refine Ops.nil ?_
          refine Fin.tdone ?_
          exact Fin.fam cont () trivial (by exact Entails.of rfl ⟨rfl, rfl, rfl, rfl, trivial⟩)
        exact Fin.tnon
      refine Fin.tbr ?_ ?_
      · refine Ops.alloc 3 rfl rfl (by with_reducible exact zvDiff) rfl rfl rfl ?_
        refine Ops.nil ?_
        refine Fin.tbr ?_ ?_
        · refine Ops.call goVCmp hC12 rfl rfl rfl rfl ?_
          refine Ops.nil ?_
          refine Fin.swap rfl ?_
          refine Fin.ta ?_
          refine Ops.stWN 2 rfl rfl rfl rfl rfl (by with_reducible exact szDiff) rfl rfl ?_
          refine Ops.nil ?_
          refine Fin.ta ?_
          refine Ops.stWN 2 rfl rfl rfl rfl rfl (by with_reducible exact szDiff) rfl rfl ?_
          refine Ops.nil ?_
          refine Fin.tdone ?_
          exact Fin.fam cont () trivial (by exact Entails.of rfl ⟨rfl, rfl, rfl, rfl, trivial⟩)
        exact Fin.tnon
      exact Fin.tnon
    exact Fin.tnon
  refine Fin.tbr ?_ ?_
  · refine Ops.alloc 3 rfl rfl (by with_reducible exact zvDiff) rfl rfl rfl ?_
    refine Ops.nil ?_
    refine Fin.tbr ?_ ?_
    · refine Ops.call goVCmp hC01 rfl rfl rfl rfl ?_
      refine Ops.nil ?_
      refine Fin.tbr ?_ ?_
      · refine Ops.call goVCmp hC12 rfl rfl rfl rfl ?_
        refine Ops.nil ?_
        refine Fin.tbr ?_ ?_
        · refine Ops.alloc 4 rfl rfl (by with_reducible exact zvDiff) rfl rfl rfl ?_
          refine Ops.nil ?_
          refine Fin.ta ?_
          refine Ops.stWN 2 rfl rfl rfl rfl rfl (by with_reducible exact szDiff) rfl rfl ?_
          refine Ops.nil ?_
          refine Fin.ta ?_
          refine Ops.stWN 2 rfl rfl rfl rfl rfl (by with_reducible exact szDiff) rfl rfl ?_
          refine Ops.nil ?_
          refine Fin.tdone ?_
          exact Fin.fam cont () trivial (by exact Entails.of rfl ⟨rfl, rfl, rfl, rfl, trivial⟩)
        exact Fin.tnon
      refine Fin.tbr ?_ ?_
      · refine Ops.alloc 4 rfl rfl (by with_reducible exact zvDiff) rfl rfl rfl ?_
        refine Ops.nil ?_
        refine Fin.tbr ?_ ?_
        · refine Ops.call goVCmp hC12 rfl rfl rfl rfl ?_
          refine Ops.nil ?_
          refine Fin.ta ?_
          refine Ops.stWN 2 rfl rfl rfl rfl rfl (by with_reducible exact szDiff) rfl rfl ?_
          refine Ops.nil ?_
          refine Fin.ta ?_
          refine Ops.stWN 2 rfl rfl rfl rfl rfl (by with_reducible exact szDiff) rfl rfl ?_
          refine Ops.nil ?_
          refine Fin.tdone ?_
          exact Fin.fam cont () trivial (by exact Entails.of rfl ⟨rfl, rfl, rfl, rfl, trivial⟩)
        exact Fin.tnon
      exact Fin.tnon
    refine Fin.tbr ?_ ?_
    · refine Ops.alloc 4 rfl rfl (by with_reducible exact zvDiff) rfl rfl rfl ?_
      refine Ops.nil ?_
      refine Fin.tbr ?_ ?_
      · refine Ops.call goVCmp hC01 rfl rfl rfl rfl ?_
        refine Ops.nil ?_
        refine Fin.tbr ?_ ?_
        · refine Ops.call goVCmp hC12 rfl rfl rfl rfl ?_
          refine Ops.nil ?_
          refine Fin.ta ?_
          refine Ops.stWN 2 rfl rfl rfl rfl rfl (by with_reducible exact szDiff) rfl rfl ?_
          refine Ops.nil ?_
          refine Fin.ta ?_
          refine Ops.stWN 2 rfl rfl rfl rfl rfl (by with_reducible exact szDiff) rfl rfl ?_
          refine Ops.nil ?_
          refine Fin.tdone ?_
          exact Fin.fam cont () trivial (by exact Entails.of rfl ⟨rfl, rfl, rfl, rfl, trivial⟩)
        exact Fin.tnon
      exact Fin.tnon
    exact Fin.tnon
  refine Fin.tbr ?_ ?_
  · refine Ops.alloc 4 rfl rfl (by with_reducible exact zvDiff) rfl rfl rfl ?_
    refine Ops.nil ?_
    refine Fin.tbr ?_ ?_
    · refine Ops.call goVCmp hC01 rfl rfl rfl rfl ?_
      refine Ops.nil ?_
      refine Fin.tbr ?_ ?_
      · refine Ops.call goVCmp hC12 rfl rfl rfl rfl ?_
        refine Ops.nil ?_
        refine Fin.tbr ?_ ?_
        · refine Ops.alloc 3 rfl rfl (by with_reducible exact zvDiff) rfl rfl rfl ?_
          refine Ops.nil ?_
          refine Fin.swap rfl ?_
          refine Fin.ta ?_
          refine Ops.stWN 2 rfl rfl rfl rfl rfl (by with_reducible exact szDiff) rfl rfl ?_
          refine Ops.nil ?_
          refine Fin.ta ?_
          refine Ops.stWN 2 rfl rfl rfl rfl rfl (by with_reducible exact szDiff) rfl rfl ?_
          refine Ops.nil ?_
          refine Fin.tdone ?_
          exact Fin.fam cont () trivial (by exact Entails.of rfl ⟨rfl, rfl, rfl, rfl, trivial⟩)
        exact Fin.tnon
      refine Fin.tbr ?_ ?_
      · refine Ops.alloc 3 rfl rfl (by with_reducible exact zvDiff) rfl rfl rfl ?_
        refine Ops.nil ?_
        refine Fin.tbr ?_ ?_
        · refine Ops.call goVCmp hC12 rfl rfl rfl rfl ?_
          refine Ops.nil ?_
          refine Fin.swap rfl ?_
          refine Fin.ta ?_
          refine Ops.stWN 2 rfl rfl rfl rfl rfl (by with_reducible exact szDiff) rfl rfl ?_
          refine Ops.nil ?_
          refine Fin.ta ?_
          refine Ops.stWN 2 rfl rfl rfl rfl rfl (by with_reducible exact szDiff) rfl rfl ?_
          refine Ops.nil ?_
          refine Fin.tdone ?_
          exact Fin.fam cont () trivial (by exact Entails.of rfl ⟨rfl, rfl, rfl, rfl, trivial⟩)
        exact Fin.tnon
      exact Fin.tnon
    refine Fin.tbr ?_ ?_
    · refine Ops.alloc 3 rfl rfl (by with_reducible exact zvDiff) rfl rfl rfl ?_
      refine Ops.nil ?_
      refine Fin.tbr ?_ ?_
      · refine Ops.call goVCmp hC01 rfl rfl rfl rfl ?_
        refine Ops.nil ?_
        refine Fin.tbr ?_ ?_
        · refine Ops.call goVCmp hC12 rfl rfl rfl rfl ?_
          refine Ops.nil ?_
          refine Fin.swap rfl ?_
          refine Fin.ta ?_
          refine Ops.stWN 2 rfl rfl rfl rfl rfl (by with_reducible exact szDiff) rfl rfl ?_
          refine Ops.nil ?_
          refine Fin.ta ?_
          refine Ops.stWN 2 rfl rfl rfl rfl rfl (by with_reducible exact szDiff) rfl rfl ?_
          refine Ops.nil ?_
          refine Fin.tdone ?_
          exact Fin.fam cont () trivial (by exact Entails.of rfl ⟨rfl, rfl, rfl, rfl, trivial⟩)
        exact Fin.tnon
      exact Fin.tnon
    exact Fin.tnon
  exact Fin.tnon
end Go.Proofs.Ytkeoejfbbmdloaa
