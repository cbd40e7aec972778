/-
  Walk: routescopelaw40.VersionsBack returns true.
-/
import Derived.Test.YtkeoejfbbmdloaaV12
namespace Go.Proofs.Ytkeoejfbbmdloaa
open Go.Own
attribute [local irreducible] St Ops Go.Own.Fin Ok OkB OkN OkT OkL OkF

set_option maxHeartbeats 8000000 in
theorem VersionsBack_ok (bs : List Int) (hb : ∀ b ∈ bs, 0 ≤ b ∧ b < 256) : Ok Try.prog 3 [bytesC bs] (boolC true) := by
  refine Ok.enter Try.func3 rfl _ Try.ntmps3 rfl ?_
  intro S w
  have hB : Bytes (bs.take 400) := ⟨fun b h => (hb b (List.mem_of_mem_take h)).1, fun b h => (hb b (List.mem_of_mem_take h)).2, by simp; omega⟩
  have hRoll := Roll_ok bs
  generalize bs.take 400 = B0 at hB hRoll
  (refine St.seq ?_; refine St.regionK (fun K hK => ?_); refine Ops.assign rfl rfl rfl ?_; refine Ops.nil (hK _ _ ?_); clear hK K; refine Fin.then ?_; refine St.seq ?_; refine St.seq ?_; refine St.regionK (fun K hK => ?_))
  refine Ops.call goVawake Vawake_ok rfl rfl rfl rfl ?_
  (refine Ops.inot rfl rfl rfl ?_; refine Ops.nil (hK _ _ ?_); clear hK K; refine Fin.then ?_; refine St.condF rfl ?_; refine St.skip ?_; refine Fin.then ?_; refine St.seq ?_; refine St.regionK (fun K hK => ?_); refine Ops.move rfl rfl rfl ?_)
  refine Ops.callN 0 goRoll hRoll rfl rfl rfl rfl rfl rfl ?_
  (refine Ops.assign rfl rfl rfl ?_; refine Ops.nil (hK _ _ ?_); clear hK K; refine Fin.then ?_; refine St.seq ?_; refine St.regionK (fun K hK => ?_); refine Ops.move rfl rfl rfl ?_)
  refine Ops.callB goClaims (Claims_ok B0 0 12 (by decide) (by decide) hB) rfl rfl rfl rfl rfl (fun q hq => ?_)
  obtain ⟨l1, p1⟩ := q
  obtain ⟨hl1, hu1⟩ := hq
  dsimp only at hl1 hu1 ⊢
  have hs1 := LSorted_ok l1 (by omega) hu1
  have ga := sortC_good l1 [] 12 trivial (fun c hc => by cases hc) (by simp; omega)
  generalize sortC l1 [] = a at hs1 ga
  refine Ops.call goLSorted hs1 rfl rfl rfl rfl ?_
  refine Ops.build rfl (by with_reducible exact bAtlas) rfl (.one rfl rfl rfl rfl .nil) rfl ?_
  (refine Ops.move rfl rfl rfl ?_)
  refine Ops.callB goClaims (Claims_ok B0 p1 12 (by decide) (by decide) hB) rfl rfl rfl rfl rfl (fun q hq => ?_)
  obtain ⟨l2, p2⟩ := q
  obtain ⟨hl2, hu2⟩ := hq
  dsimp only at hl2 hu2 ⊢
  have hs2 := LSorted_ok l2 (by omega) hu2
  have gb := sortC_good l2 [] 12 trivial (fun c hc => by cases hc) (by simp; omega)
  generalize sortC l2 [] = b at hs2 gb
  refine Ops.call goLSorted hs2 rfl rfl rfl rfl ?_
  refine Ops.build rfl (by with_reducible exact bAtlas) rfl (.one rfl rfl rfl rfl .nil) rfl ?_
  obtain ⟨aa, va, la⟩ := ga
  obtain ⟨ab, vb, lb⟩ := gb
  have sab := step_ok aa ab
  have sba := step_ok ab aa
  have g1 := wo_len a b
  have g2 := wo_len b a
  have hC := VCmp_ok a b la lb (srt_asc aa) (srt_asc ab) aa ab
  have hC0 := VCmp_ok a a la la (srt_asc aa) (srt_asc aa) aa aa
  rw [wo_self aa] at hC0
  have r1 := congrArg List.length sab.res
  have r2 := congrArg List.length sba.res
  rw [srt_len] at r1 r2
  have hA1 := Apply_ok a (wo a b) (wo b a) (by omega) (by omega) (by omega) aa (wo_asc aa) (wo_asc ab) (fun c hc => va c (wo_mem_of hc)) (fun c hc => vb c (wo_mem_of hc)) sab.w sab.len sab.mc (by omega) (by rw [sab.res]; exact ab)
  have hA2 := Apply_ok b (wo b a) (wo a b) (by omega) (by omega) (by omega) ab (wo_asc ab) (wo_asc aa) (fun c hc => vb c (wo_mem_of hc)) (fun c hc => va c (wo_mem_of hc)) sba.w sba.len sba.mc (by omega) (by rw [sba.res]; exact aa)
  rw [sab.res] at hA1
  rw [sba.res] at hA2
  have hI := Inv_ok (wo a b) (wo b a) (by omega) (by omega)
  have hE1 := SameClaims_refl b (by omega)
  have hE2 := SameClaims_refl a (by omega)
  generalize wo a b = g at hC hA1 hA2 hI
  generalize wo b a = m at hC hA1 hA2 hI
  (refine Ops.alloc 1 rfl rfl (by with_reducible exact zvAtlas) rfl rfl rfl ?_; refine Ops.alloc 2 rfl rfl (by with_reducible exact zvAtlas) rfl rfl rfl ?_; refine Ops.stWN 4 rfl rfl rfl rfl rfl (by with_reducible first | exact szAtlas | exact szEv) rfl rfl ?_; refine Ops.stWN 4 rfl rfl rfl rfl rfl (by with_reducible first | exact szAtlas | exact szEv) rfl rfl ?_; refine Ops.nil (hK _ _ ?_); clear hK K; refine Fin.then ?_; refine St.seq ?_; refine St.regionK (fun K hK => ?_); refine Ops.ldNO (n := 4) rfl rfl rfl rfl rfl (by with_reducible first | exact lAtlas | exact lEv) rfl ?_; refine Ops.ldNO (n := 4) rfl rfl rfl rfl rfl (by with_reducible first | exact lAtlas | exact lEv) rfl ?_)
  refine Ops.call goVCmp hC rfl rfl rfl rfl ?_
  (refine Ops.alloc 3 rfl rfl (by with_reducible exact zvDiff) rfl rfl rfl ?_; refine Ops.stWN 2 rfl rfl rfl rfl rfl (by with_reducible exact szDiff) rfl rfl ?_; refine Ops.nil (hK _ _ ?_); clear hK K; refine Fin.then ?_; refine St.seq ?_; refine St.regionK (fun K hK => ?_); refine Ops.fldO rfl rfl rfl (by with_reducible first | exact fK0 | exact fK1 | exact fK2 | exact fK3 | exact fK4 | exact fK5 | exact fK6 | exact fE0 | exact fE1 | exact fE2 | exact fE3 | exact fA0 | exact fD0 | exact fD1) rfl ?_; refine Ops.ld1A rfl rfl rfl rfl rfl (by with_reducible first | exact lInt | exact lAddr | exact lAssume | exact lClaims | exact lIDs) rfl ?_; refine Ops.ldNO (n := 2) rfl rfl rfl rfl rfl (by with_reducible exact lDiff) rfl ?_)
  refine Ops.call goApply hA1 rfl rfl rfl rfl ?_
  (refine Ops.move rfl rfl rfl ?_; refine Ops.extract rfl rfl rfl rfl ?_; refine Ops.extract rfl rfl rfl rfl ?_; refine Ops.assign rfl rfl rfl ?_; refine Ops.assign rfl rfl rfl ?_; refine Ops.nil (hK _ _ ?_); clear hK K; refine Fin.then ?_; refine St.seq ?_)
  refine St.drawK (by with_reducible exact mixed) 10 (.p 0 (.f 1 (.f 2 (.m 3 (.m 4 (.p 5 (.p 6 (.p 7 (.p 8 (.p 9 .done)))))))))) (by kernel_rfl) (fun K hK => ?_)
  (refine Ops.fldO rfl rfl rfl (by with_reducible first | exact fK0 | exact fK1 | exact fK2 | exact fK3 | exact fK4 | exact fK5 | exact fK6 | exact fE0 | exact fE1 | exact fE2 | exact fE3 | exact fA0 | exact fD0 | exact fD1) rfl ?_; refine Ops.ld1A rfl rfl rfl rfl rfl (by with_reducible first | exact lInt | exact lAddr | exact lAssume | exact lClaims | exact lIDs) rfl ?_; refine Ops.ldNO (n := 2) rfl rfl rfl rfl rfl (by with_reducible exact lDiff) rfl ?_)
  refine Ops.call goInv hI rfl rfl rfl rfl ?_
  refine Ops.call goApply hA2 rfl rfl rfl rfl ?_
  (refine Ops.move rfl rfl rfl ?_; refine Ops.extract rfl rfl rfl rfl ?_; refine Ops.extract rfl rfl rfl rfl ?_; refine Ops.assign rfl rfl rfl ?_; refine Ops.assign rfl rfl rfl ?_; refine Ops.nil (hK _ _ ?_); clear hK K; refine Fin.then ?_; refine St.seq ?_)
  refine St.drawK (by with_reducible exact mixed) 33 (.p 0 (.p 1 (.p 2 (.p 3 (.p 4 (.p 5 (.p 6 (.p 7 (.p 8 (.f 9 (.m 10 (.p 11 (.p 12 (.p 13 (.p 14 (.f 15 (.m 16 (.p 17 (.p 18 (.f 19 (.f 20 (.f 24 (.f 25 (.m 21 (.p 22 (.p 23 (.m 26 (.p 27 (.p 28 (.p 29 (.p 30 (.p 31 (.p 32 .done))))))))))))))))))))))))))))))))) (by kernel_rfl) (fun K hK => ?_)
  (refine Ops.move rfl rfl rfl ?_; refine Ops.ibin ieql rfl rfl rfl rfl ?_; refine Ops.move rfl rfl rfl ?_; refine Ops.move rfl rfl rfl ?_; refine Ops.ibin ieql rfl rfl rfl rfl ?_; refine Ops.pickT rfl rfl rfl rfl ?_; refine Ops.move rfl rfl rfl ?_; refine Ops.move rfl rfl rfl ?_; refine Ops.fldO rfl rfl rfl (by with_reducible first | exact fK0 | exact fK1 | exact fK2 | exact fK3 | exact fK4 | exact fK5 | exact fK6 | exact fE0 | exact fE1 | exact fE2 | exact fE3 | exact fA0 | exact fD0 | exact fD1) rfl ?_; refine Ops.ld1A rfl rfl rfl rfl rfl (by with_reducible first | exact lInt | exact lAddr | exact lAssume | exact lClaims | exact lIDs) rfl ?_)
  refine Ops.call goSameClaims hE1 rfl rfl rfl rfl ?_
  (refine Ops.pickT rfl rfl rfl rfl ?_; refine Ops.move rfl rfl rfl ?_; refine Ops.move rfl rfl rfl ?_; refine Ops.fldO rfl rfl rfl (by with_reducible first | exact fK0 | exact fK1 | exact fK2 | exact fK3 | exact fK4 | exact fK5 | exact fK6 | exact fE0 | exact fE1 | exact fE2 | exact fE3 | exact fA0 | exact fD0 | exact fD1) rfl ?_; refine Ops.ld1A rfl rfl rfl rfl rfl (by with_reducible first | exact lInt | exact lAddr | exact lAssume | exact lClaims | exact lIDs) rfl ?_)
  refine Ops.call goSameClaims hE2 rfl rfl rfl rfl ?_
  (refine Ops.pickT rfl rfl rfl rfl ?_; refine Ops.move rfl rfl rfl ?_; refine Ops.ldNO (n := 4) rfl rfl rfl rfl rfl (by with_reducible first | exact lAtlas | exact lEv) rfl ?_; refine Ops.ldNO (n := 4) rfl rfl rfl rfl rfl (by with_reducible first | exact lAtlas | exact lEv) rfl ?_; refine Ops.ldNO (n := 4) rfl rfl rfl rfl rfl (by with_reducible first | exact lAtlas | exact lEv) rfl ?_; refine Ops.ldNO (n := 4) rfl rfl rfl rfl rfl (by with_reducible first | exact lAtlas | exact lEv) rfl ?_)
  refine Ops.call goVCmp hC0 rfl rfl rfl rfl ?_
  refine fldVe rfl rfl (by with_reducible exact vD0) rfl rfl ?_
  (refine Ops.lenF rfl rfl (by with_reducible first | exact sClaims.und | exact sInts.und | exact sLists.und) (List.length_map ..) rfl ?_)
  refine Ops.call goVCmp hC0 rfl rfl rfl rfl ?_
  refine fldVe rfl rfl (by with_reducible exact vD1) rfl rfl ?_
  (refine Ops.lenF rfl rfl (by with_reducible first | exact sClaims.und | exact sInts.und | exact sLists.und) (List.length_map ..) rfl ?_)
  refine Ops.ibin (iadd (by decide) (by decide)) rfl rfl rfl rfl ?_
  (refine Ops.ibin ieql rfl rfl rfl rfl ?_; refine Ops.pickT rfl rfl rfl rfl ?_; refine Ops.assign rfl rfl rfl ?_; refine Ops.nil (hK _ _ ?_); clear hK K; refine Fin.then ?_; refine St.ret ?_)
  refine Fin.ret [_] rfl (AllRes.tmp rfl AllRes.nil) rfl rfl
end Go.Proofs.Ytkeoejfbbmdloaa
