/-
  Walks: routescopelaw40.claim, awake.
-/
import Derived.Test.YtkeoejfbbmdloaaV11
import Derived.Test.YtkeoejfbbmdloaaL4
namespace Go.Proofs.Ytkeoejfbbmdloaa
open Go.Own
attribute [local irreducible] St Ops Go.Own.Fin Ok OkB OkN OkT OkL OkF

theorem goclaim : InGo Try.prog 15 := InGo.of Try.func15 rfl (by decide)
theorem claim_ok (a b : Int) : Ok Try.prog 15 [adrC a, adrC b] (clC ⟨1, a, b, 0, 0, 0, 0⟩) := by
  refine Ok.enter Try.func15 rfl _ Try.ntmps15 rfl ?_
  intro S w
  (refine St.seq ?_; refine St.regionK (fun K hK => ?_); refine Ops.alloc 0 rfl rfl (by with_reducible exact zvClaim) rfl rfl rfl ?_; refine Ops.nil (hK _ _ ?_); clear hK K; refine Fin.then ?_; refine St.seq ?_; refine St.regionK (fun K hK => ?_); refine Ops.move rfl rfl rfl ?_; refine Ops.move rfl rfl rfl ?_)
  refine Ops.build rfl (by with_reducible exact bClaim) rfl (.one rfl rfl rfl rfl (.one rfl rfl rfl rfl (.one rfl rfl rfl rfl .nil))) rfl ?_
  (refine Ops.stWN 7 rfl rfl rfl rfl rfl (by with_reducible exact szClaim) rfl rfl ?_; refine Ops.nil (hK _ _ ?_); clear hK K; refine Fin.then ?_; refine St.ret ?_)
  refine Fin.end [_] rfl (AllRes.cellN (n := 7) rfl rfl (by with_reducible exact lClaim) rfl AllRes.nil) rfl rfl

def x12 : Cl := ⟨1, 1, 2, 0, 0, 0, 0⟩
def x23 : Cl := ⟨1, 2, 3, 0, 0, 0, 0⟩
theorem n11 : ¬ cmpC x12 x12 < 0 := by decide
theorem n11' : ¬ 0 < cmpC x12 x12 := by decide
theorem n21 : ¬ cmpC x23 x12 < 0 := by decide
theorem p21 : 0 < cmpC x23 x12 := by decide
theorem wA : wo [x12] [x12, x23] = [] := by rw [wo_cons, if_neg n11, if_neg n11', wo_nil]
theorem wB0 : wo [x23] [x12] = [x23] := by rw [wo_cons, if_neg n21, if_pos p21, wo_end, wo_nil]
theorem wB : wo [x12, x23] [x12] = [x23] := by rw [wo_cons, if_neg n11, if_neg n11', wB0]
theorem aA : Asc [x12] := trivial
theorem aB : Asc [x12, x23] := ⟨by decide, trivial⟩
theorem vD0 : ∃ fs F D, Try.prog.underlying 37 = some (.struct fs) ∧ fs[0]? = some F ∧ F.offset = 0 ∧ Try.prog.underlying F.type = some D ∧ isAggD D = false := ⟨_, _, _, Try.underlying37, rfl, rfl, Try.underlying26, rfl⟩
theorem vD1 : ∃ fs F D, Try.prog.underlying 37 = some (.struct fs) ∧ fs[1]? = some F ∧ F.offset = 1 ∧ Try.prog.underlying F.type = some D ∧ isAggD D = false := ⟨_, _, _, Try.underlying37, rfl, rfl, Try.underlying26, rfl⟩
theorem fldVe {X : Ctx} {L : AL} {B : BL} {ops : Array Oper} {K : Act → World → Prop} {r : Pl} {k : Kd} {x : Operand} {d t t' : Nat} {pos : String} {af : Array Edge} {g : Option (Nat × Bool)} {f off : Nat} {cs : List CT} {c : CT} (hg : gd ops L g = some true) (hx : ev L x = some (.ct (.fr (aggT cs))))
    (hV : ∃ fs F D, X.P.underlying t = some (.struct fs) ∧ fs[f]? = some F ∧ F.offset = off ∧ X.P.underlying F.type = some D ∧ isAggD D = false) (hc : cs[off]? = some c) (hn : Nat.blt d X.n = true)
    (h : Ops X ops r ((d, .ct c) :: L) B K) : Ops X ops (.cons ⟨some d, .field t x f, t', pos, af, g⟩ k r) L B K := by
  obtain ⟨fs, F, D, h1, h2, h3, h4, h5⟩ := hV
  exact Ops.fldV hg hx h1 h2 h3 h4 h5 hc hn h

theorem goVawake : InGo Try.prog 5 := InGo.of Try.func5 rfl (by decide)
set_option maxHeartbeats 4000000 in
theorem Vawake_ok : Ok Try.prog 5 [] (boolC true) := by
  have hC := VCmp_ok [x12] [x12, x23] (by decide) (by decide) (srt_asc aA) (srt_asc aB) aA aB
  rw [wA, wB] at hC
  have hA := Apply_ok [x12] [] [x23] (by decide) (by decide) (by decide) aA trivial trivial (fun c hc => by cases hc) (fun c hc => by rw [List.mem_singleton.1 hc]; decide) (wo_nil _) (by rw [wo_end, wo_nil]; rfl) wB0 (by rw [wo_end, wo_nil]; decide) (by rw [wo_end, wo_nil]; exact (show Asc (srt [x12, x23]) by rw [srt_asc aB]; exact aB))
  rw [show srt (wo [x12] [] ++ [x23]) = [x12, x23] by rw [wo_end, wo_nil]; exact srt_asc aB] at hA
  have hI := Inv_ok [] [x23] (by decide) (by decide)
  have hS := Same_refl [] [x23] (by decide) (by decide)
  have c12 : Ok Try.prog 15 [adrC 1, adrC 2] (clC x12) := claim_ok 1 2
  have c23 : Ok Try.prog 15 [adrC 2, adrC 3] (clC x23) := claim_ok 2 3
  refine Ok.enter Try.func5 rfl _ Try.ntmps5 rfl ?_
  intro S w
  (refine St.seq ?_; refine St.regionK (fun K hK => ?_); refine Ops.assign rfl rfl rfl ?_; refine Ops.nil (hK _ _ ?_); clear hK K; refine Fin.then ?_; refine St.seq ?_; refine St.regionK (fun K hK => ?_))
  refine Ops.call goclaim c12 rfl rfl rfl rfl ?_
  refine Ops.litN (n := 7) rfl rfl (by with_reducible exact sClaims) rfl rfl (by decide) rfl ?_
  refine Ops.build rfl (by with_reducible exact bAtlas) rfl (.one rfl rfl rfl rfl .nil) rfl ?_
  refine Ops.call goclaim c12 rfl rfl rfl rfl ?_
  refine Ops.call goclaim c23 rfl rfl rfl rfl ?_
  refine Ops.lit (m := 2) (n := 7) (cs := clCs x12 ++ clCs x23) rfl rfl (by with_reducible exact sClaims) (.agg rfl rfl rfl rfl (.agg rfl rfl rfl rfl .nil)) (by decide) rfl ?_
  refine Ops.build rfl (by with_reducible exact bAtlas) rfl (.one rfl rfl rfl rfl .nil) rfl ?_
  (refine Ops.alloc 0 rfl rfl (by with_reducible exact zvAtlas) rfl rfl rfl ?_; refine Ops.alloc 1 rfl rfl (by with_reducible exact zvAtlas) rfl rfl rfl ?_; refine Ops.stWN 4 rfl rfl rfl rfl rfl (by with_reducible first | exact szAtlas | exact szEv) rfl rfl ?_; refine Ops.stWN 4 rfl rfl rfl rfl rfl (by with_reducible first | exact szAtlas | exact szEv) rfl rfl ?_; refine Ops.nil (hK _ _ ?_); clear hK K; refine Fin.then ?_; refine St.seq ?_; refine St.regionK (fun K hK => ?_); refine Ops.ldNO (n := 4) rfl rfl rfl rfl rfl (by with_reducible first | exact lAtlas | exact lEv) rfl ?_; refine Ops.ldNO (n := 4) rfl rfl rfl rfl rfl (by with_reducible first | exact lAtlas | exact lEv) rfl ?_)
  refine Ops.call goVCmp hC rfl rfl rfl rfl ?_
  (refine Ops.alloc 2 rfl rfl (by with_reducible exact zvDiff) rfl rfl rfl ?_; refine Ops.stWN 2 rfl rfl rfl rfl rfl (by with_reducible exact szDiff) rfl rfl ?_; refine Ops.nil (hK _ _ ?_); clear hK K; refine Fin.then ?_; refine St.seq ?_; refine St.regionK (fun K hK => ?_); refine Ops.fldO rfl rfl rfl (by with_reducible first | exact fK0 | exact fK1 | exact fK2 | exact fK3 | exact fK4 | exact fK5 | exact fK6 | exact fE0 | exact fE1 | exact fE2 | exact fE3 | exact fA0 | exact fD0 | exact fD1) rfl ?_; refine Ops.ld1A rfl rfl rfl rfl rfl (by with_reducible first | exact lInt | exact lAddr | exact lAssume | exact lClaims | exact lIDs) rfl ?_; refine Ops.ldNO (n := 2) rfl rfl rfl rfl rfl (by with_reducible exact lDiff) rfl ?_)
  refine Ops.call goApply hA rfl rfl rfl rfl ?_
  (refine Ops.move rfl rfl rfl ?_; refine Ops.extract rfl rfl rfl rfl ?_; refine Ops.extract rfl rfl rfl rfl ?_; refine Ops.assign rfl rfl rfl ?_; refine Ops.assign rfl rfl rfl ?_; refine Ops.nil (hK _ _ ?_); clear hK K; refine Fin.then ?_; refine St.seq ?_)
  refine St.drawK (by with_reducible exact mixed) 40 (.p 0 (.f 1 (.p 2 (.p 3 (.p 4 (.p 5 (.f 6 (.p 7 (.p 8 (.p 9 (.p 10 (.p 11 (.f 12 (.p 13 (.f 14 (.m 15 (.p 16 (.p 17 (.p 18 (.p 19 (.p 20 (.p 21 (.p 22 (.p 23 (.p 24 (.p 25 (.p 26 (.p 27 (.f 28 (.m 29 (.p 30 (.p 31 (.p 32 (.p 33 (.p 34 (.f 35 (.f 36 (.m 37 (.p 38 (.p 39 .done)))))))))))))))))))))))))))))))))))))))) (by kernel_rfl) (fun K hK => ?_)
  (refine Ops.fldO rfl rfl rfl (by with_reducible first | exact fK0 | exact fK1 | exact fK2 | exact fK3 | exact fK4 | exact fK5 | exact fK6 | exact fE0 | exact fE1 | exact fE2 | exact fE3 | exact fA0 | exact fD0 | exact fD1) rfl ?_; refine Ops.ld1A rfl rfl rfl rfl rfl (by with_reducible first | exact lInt | exact lAddr | exact lAssume | exact lClaims | exact lIDs) rfl ?_; refine Ops.lenF rfl rfl (by with_reducible first | exact sClaims.und | exact sInts.und | exact sLists.und) (List.length_map ..) rfl ?_; refine Ops.ibin ieql rfl rfl rfl rfl ?_; refine Ops.move rfl rfl rfl ?_; refine Ops.fldO rfl rfl rfl (by with_reducible first | exact fK0 | exact fK1 | exact fK2 | exact fK3 | exact fK4 | exact fK5 | exact fK6 | exact fE0 | exact fE1 | exact fE2 | exact fE3 | exact fA0 | exact fD0 | exact fD1) rfl ?_; refine Ops.ld1A rfl rfl rfl rfl rfl (by with_reducible first | exact lInt | exact lAddr | exact lAssume | exact lClaims | exact lIDs) rfl ?_; refine Ops.lenF rfl rfl (by with_reducible first | exact sClaims.und | exact sInts.und | exact sLists.und) (List.length_map ..) rfl ?_; refine Ops.ibin ieql rfl rfl rfl rfl ?_; refine Ops.pickT rfl rfl rfl rfl ?_; refine Ops.move rfl rfl rfl ?_; refine Ops.fldO rfl rfl rfl (by with_reducible first | exact fK0 | exact fK1 | exact fK2 | exact fK3 | exact fK4 | exact fK5 | exact fK6 | exact fE0 | exact fE1 | exact fE2 | exact fE3 | exact fA0 | exact fD0 | exact fD1) rfl ?_; refine Ops.ld1A rfl rfl rfl rfl rfl (by with_reducible first | exact lInt | exact lAddr | exact lAssume | exact lClaims | exact lIDs) rfl ?_)
  refine Ops.idxF rfl rfl rfl (by with_reducible exact sClaims) (by decide) (cls_at (l := [x23]) (by decide) (by decide)) rfl ?_
  (refine Ops.ldNF (n := 7) rfl rfl rfl (by with_reducible exact lClaim) rfl rfl ?_)
  refine Ops.call goclaim c23 rfl rfl rfl rfl ?_
  refine Ops.eqS (ks := clK) (clI x23) (clI x23) rfl rfl rfl rfl rfl (by with_reducible exact eClaim) rfl ?_
  rw [decide_eq_true rfl]
  (refine Ops.pickT rfl rfl rfl rfl ?_; refine Ops.move rfl rfl rfl ?_; refine Ops.move rfl rfl rfl ?_; refine Ops.ibin ieql rfl rfl rfl rfl ?_; refine Ops.pickT rfl rfl rfl rfl ?_; refine Ops.move rfl rfl rfl ?_; refine Ops.move rfl rfl rfl ?_; refine Ops.lenF rfl rfl (by with_reducible first | exact sClaims.und | exact sInts.und | exact sLists.und) (List.length_map ..) rfl ?_; refine Ops.ibin ieql rfl rfl rfl rfl ?_; refine Ops.pickT rfl rfl rfl rfl ?_; refine Ops.move rfl rfl rfl ?_; refine Ops.ldNO (n := 2) rfl rfl rfl rfl rfl (by with_reducible exact lDiff) rfl ?_)
  refine Ops.call goInv hI rfl rfl rfl rfl ?_
  refine fldVe rfl rfl (by with_reducible exact vD0) rfl rfl ?_
  (refine Ops.lenF rfl rfl (by with_reducible first | exact sClaims.und | exact sInts.und | exact sLists.und) (List.length_map ..) rfl ?_; refine Ops.ibin ieql rfl rfl rfl rfl ?_; refine Ops.pickT rfl rfl rfl rfl ?_; refine Ops.move rfl rfl rfl ?_; refine Ops.ldNO (n := 2) rfl rfl rfl rfl rfl (by with_reducible exact lDiff) rfl ?_; refine Ops.ldNO (n := 2) rfl rfl rfl rfl rfl (by with_reducible exact lDiff) rfl ?_)
  refine Ops.call goSame hS rfl rfl rfl rfl ?_
  (refine Ops.pickT rfl rfl rfl rfl ?_; refine Ops.assign rfl rfl rfl ?_; refine Ops.nil (hK _ _ ?_); clear hK K; refine Fin.then ?_; refine St.ret ?_)
  refine Fin.ret [_] rfl (AllRes.tmp rfl AllRes.nil) rfl rfl
end Go.Proofs.Ytkeoejfbbmdloaa
