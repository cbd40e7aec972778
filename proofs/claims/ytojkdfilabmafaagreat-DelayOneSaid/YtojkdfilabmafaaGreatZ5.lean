/- The proof that DelayOne holds for every input, without conditions: part 5 of 6. -/
import Derived.Test.YtojkdfilabmafaaGreatZ4
namespace Go.Own
def seqR : Code → Code
  | .seq _ b => b
  | c => c
def bodyOf (f : Func) : Code := match f.body with
  | some c => c
  | none => .skip
end Go.Own
namespace Go.Proofs.YtojkdfilabmafaaGreat
open Go.Own Go.Limbs
attribute [local irreducible] St Ops Go.Own.Fin Ok OkM
theorem gostart : InGo Tryz.prog 139 := InGo.of Tryz.func139 (by kernel_rfl) (by kernel_rfl)
theorem ints_flat (xs : List Int) : (xs.map fun x => [intC x]).flatten = ints xs := by
  induction xs with
  | nil => rfl
  | cons x xs ih =>
    have e : ints (x :: xs) = intC x :: ints xs := rfl; rw [e, ← ih]; rfl
theorem getD_take' {α : Type} {l : List α} {i q : Nat} {d : α} (h : i < q) : (l.take q).getD i d = l.getD i d := by
  simp [List.getD_eq_getElem?_getD, List.getElem?_take, h]
theorem fIx_bd (xs : List Int) (v : Int) : -1 ≤ fIx xs v ∧ fIx xs v < xs.length := idxI_bd _ _
theorem nzC_bd {E : Tv} {last : Nat} {art : Int} : -1 ≤ nzC E last art ∧ nzC E last art < (last + 1 : Nat) := by
  have := idxI_bd (fun x => decide (x ≠ 0)) ((E.rows.getD (fIx E.bas art).toNat []).take (last + 1)); unfold nzC; rw [List.length_take] at this; omega
theorem stE2_lens (E : Tv) (last : Nat) (art : Int) : (stE2 E last art).rows.length = E.rows.length ∧ (stE2 E last art).bas.length = E.bas.length ∧ (stE2 E last art).col.length = E.col.length := by
  unfold stE2; split
  · exact ⟨rfl, rfl, rfl⟩
  · exact ⟨Xb _ _ _, pvt_bas _ _ _, Z7 _ _ _⟩
theorem set3_B {e0 e1 e2 e3 e3' : Ent} {Lr : BL} : ∀ j, bget ((0, e0) :: (1, e1) :: (2, e2) :: (3, e3') :: Lr) j = bget ((3, e3') :: bdel ((0, e0) :: (1, e1) :: (2, e2) :: (3, e3) :: Lr) 3) j := fun j => by
  by_cases h3 : 3 = j
  · subst h3; rw [Qa]; rfl
  · rw [Q1 _ _ h3, X0 _ (Ne.symm h3)]
    match j, h3 with
    | 0, _ => rfl
    | 1, _ => rfl
    | 2, _ => rfl
    | 3, h => exact absurd rfl h
    | j + 4, _ => rfl
set_option maxHeartbeats 64000000 in
theorem start_tail (T E E2 : Tv) (art : Int) (g1 c1 g3 c3 : Nat) (hlx : List Value) (S : BSet) (w : World) (ρ0 : Nat → Value) (hbor : ∀ gb, (lentM Tryz.prog 220 S w (tabB T) [0] ρ0).bor gb → S gb)
    (hout : stOut T E art = stE3 E T.bas.length T.col.length art) (hres : stRes T E = true) (hE3d : stE3 E T.bas.length T.col.length art = { E2 with rows := delP (fIx E2.col art).toNat (E2.rows.take (T.bas.length + 1)) (T.bas.length + 1), col := E2.col.eraseIdx (fIx E2.col art).toNat, hl := E2.hl.take (T.bas.length + 1) })
    (hRo : 0 ≤ fIx E2.col art) (hr2 : ∀ i, i < T.bas.length + 2 → (E2.rows.getD i []).length = T.col.length + 2) (hn2 : E2.rows.length = T.bas.length + 2) (hc2 : E2.col.length = T.col.length + 1)
    (hhx : hlx.length = T.bas.length + 2) (hlen : T.hl.length = T.bas.length + 1) (hc1 : T.hl.length + 1 ≤ c1) (hc3 : T.col.length + 1 ≤ c3) (hw1 : T.bas.length ≤ 90) (hw2 : T.col.length ≤ 90) :
    St (lentM Tryz.prog 220 S w (tabB T) [0] ρ0) [(0, .own 0), (1, .ct (intC art)), (5, .ct (intC T.bas.length)), (6, .ct (intC T.col.length))]
      ((0, .box 215 [.ex (kh g1 0 (T.hl.length + 1) c1), .ex T.hB, .ex (kh g3 0 (T.col.length + 1) c3), boolC (decide (E2.den < 0)), natC E2.den.natAbs]) :: (1, .rowx (kh g1 0 (T.hl.length + 1) c1) 212 1 (hlx.map CT.ex)) :: (2, .rowx T.hB 3 1 (ints E2.bas)) :: (3, .rowx (kh g3 0 (T.col.length + 1) c3) 3 1 (ints E2.col)) :: linesB 10 hlx E2.rows)
      (seqR (seqR (seqR (seqR (seqR (seqR (seqR (seqR (seqR (seqR (seqR (seqR (seqR (bodyOf Tryz.f139))))))))))))))
      (bodyPost Tryz.prog Tryz.f139 (postM S w ρ0 (tabB T) [0] (fun H : Tv => H.hl.length = (stOut T E art).rows.length) (fun _ => .ct (boolC (stRes T E))) (fun H => tabB ((stOut T E art).wh H)))) := by
  have bC := fIx_bd E2.col art; have hIc : Ok Tryz.prog 203 [intsC E2.col, intC art] (intC (fIx E2.col art)) := Index_ints E2.col art (by omega); obtain ⟨cx, hcx⟩ : ∃ cx : Nat, fIx E2.col art = cx := ⟨(fIx E2.col art).toNat, by omega⟩; rw [hcx] at hIc bC; rw [hcx, Int.toNat_natCast] at hE3d; refine Qy (Qx fun K hK => ?_); refine Qq J J J (QW J J J J (QJ J J J fT2 J (QX J J J J J lInts J (Qq J J J (Ops.callRO 3 goIndex_ints hIc J J (fun a ρ w hI => ?_) J J ?_)))))
  · have h1 := hI.readX (i := 3) (el := 3) (n := 1) (v := kh g3 0 (T.col.length + 1) c3) (es := E2.col.map fun x => [intC x]) (by rw [ints_flat]; rfl) (by simp) (by decide) hbor; have h2 : a.eval (.tmp 174) = kh g3 0 (T.col.length + 1) c3 := hI.evx J; exact ⟨by rw [h2]; exact h1, hI.evx J, trivial⟩
  refine Qv J J J (Qj (hK _ _ (Qz (Qy ?_)))); clear hK K; refine Qx (fun K hK => ?_); refine Qq J J J (Qq J J J (QW J J J J (QJ J J J fT0 J (QX J J J J J lMat J (Qq J J J (Qk (iadd (by omega) (by omega)) J J J J ?_))))))
  refine Y1 (T.bas.length + 1) J J J (by omega) sMat (by omega) J ?_
  refine Ops.shrink 1 (T.bas.length + 1) J (by simp [hhx, hlen]) (by decide) (by omega) ?_
  refine QW J J J J (QJ J J J fT0 J (Xq J J J J J zMat (Nat.le_of_ble_eq_true J) (Qj (hK _ _ (Qz (Qy ?_)))))); clear hK K; refine Qx (fun K hK => ?_); refine Qq J J J (Qq J J J (QW J J J J (QJ J J J fT2 J (QX J J J J J lInts J (Qq J J J (Qq J J J (Qk (iadd (by omega) (by omega)) J J J J ?_))))))); have hdc := (Delete_ints g3 (T.col.length + 1) c3 E2.col cx (by omega) (by omega) hc3 (by omega)).nm 3 (fun _ _ => .inl ⟨_, rfl⟩); refine Ops.call1 3 goDelete_ints hdc J J J hbor J (fun p hp => ?_) (fun q j hq => ?_) (fun _ _ => ?_)
  · obtain ⟨k, hk, rfl⟩ := List.mem_map.1 hp
    obtain rfl : k = 0 := by simpa using hk
    exact ⟨by simp, rfl⟩
  · rcases hq with hq | ⟨o, hq⟩ <;> simp [Sl.ren] at hq
  refine Ops.keep [(0, .own 0), (5, .ct (intC T.bas.length)), (16, .ct (intC cx)), (187, .own 0), (195, .ct (.ex (kh g3 0 (T.col.length + 1 - 1) c3)))] ⟨rfl, rfl, rfl, rfl, rfl, trivial⟩ ?_
  have htk : (hlx.map CT.ex).take ((T.bas.length + 1) * 1) = (hlx.take (T.bas.length + 1)).map CT.ex := by rw [Nat.mul_one, List.map_take]
  refine Ops.reB (B' := (0, .box 215 [.ex (kh g1 0 (T.bas.length + 1) c1), .ex T.hB, .ex (kh g3 0 (T.col.length + 1) c3), boolC (decide (E2.den < 0)), natC E2.den.natAbs]) :: (1, .rowx (kh g1 0 (T.bas.length + 1) c1) 212 1 ((hlx.take (T.bas.length + 1)).map CT.ex)) :: (2, .rowx T.hB 3 1 (ints E2.bas)) :: (3, .rowx (kh g3 0 (T.col.length + 1 - 1) c3) 3 1 (ints (E2.col.eraseIdx cx))) :: linesB 10 hlx E2.rows) (fun j => by rw [← htk]; exact set3_B j) ?_
  refine QW J J J J (QJ J J J fT2 J (Xq J J J J J zInts (Nat.le_of_ble_eq_true J) (Qj (hK _ _ (Qz (Qy (Qy ?_))))))); clear hK K; refine Qx (fun K hK => ?_); refine Qq J J J (QW J J J J (QJ J J J fT0 J (QX J J J J J lMat J (ZW 1 (T.bas.length + 1) J J J (by decide) (by simp [hhx]) sMat.und J ?_)))); refine Qq J J J (Qj (hK _ _ (Qz (Q5 ?_)))); clear hK K
  have hyt : (hlx.take (T.bas.length + 1)).length = T.bas.length + 1 := by rw [List.length_take]; omega
  have hrt : (E2.rows.take (T.bas.length + 1)).length = T.bas.length + 1 := by rw [List.length_take]; omega
  refine Qs (α := Nat × List Value) (fun x => x.1 ≤ T.bas.length + 1 ∧ x.2.length = T.bas.length + 1)
    (fun x => [(0, .own 0), (5, .ct (intC T.bas.length)), (16, .ct (intC cx)), (201, .ct (.ex (kh g1 0 (T.bas.length + 1) c1))), (202, .ct (intC ((T.bas.length + 1 : Nat) : Int))), (203, .ct (intC x.1))])
    (fun x => (0, .box 215 [.ex (kh g1 0 (T.bas.length + 1) c1), .ex T.hB, .ex (kh g3 0 T.col.length c3), boolC (decide (E2.den < 0)), natC E2.den.natAbs]) :: (1, .rowx (kh g1 0 (T.bas.length + 1) c1) 212 1 (x.2.map CT.ex)) :: (2, .rowx T.hB 3 1 (ints E2.bas)) :: (3, .rowx (kh g3 0 T.col.length c3) 3 1 (ints (E2.col.eraseIdx cx))) :: linesB 10 x.2 (delP cx (E2.rows.take (T.bas.length + 1)) x.1))
    (fun x => T.bas.length + 1 - x.1) (0, hlx.take (T.bas.length + 1)) ⟨Nat.zero_le _, hyt⟩ (by exact Qc (T.bas.length + 1 + 10) (Y0 (by dsimp only; rw [delP_zero]; exact drop_B (by omega) (by omega)) ⟨rfl, rfl, rfl, rfl, rfl, rfl, trivial⟩)) ?_
  rintro ⟨i, hly⟩ ⟨hi, hhy⟩
  dsimp only at hi hhy ⊢; have hdl2 := delP_len cx (E2.rows.take (T.bas.length + 1)) i; rw [hrt] at hdl2; refine Qy (Qx fun K hK => ?_); refine Qk ilss J J J J (Qj (hK _ _ (Qz (Qy ?_)))); clear hK K; refine Q2 J (fun h7 => ?_) (fun h7 => ?_)
  · have ki : (i : Int).toNat * 1 = i := by omega
    have hi2 : i < T.bas.length + 1 := by omega
    have hat := delP_at cx (E2.rows.take (T.bas.length + 1)) i (by omega); have hset := delP_set cx (E2.rows.take (T.bas.length + 1)) i (by omega); rw [getD_take' hi2] at hat hset; have hln := hr2 i (by omega); generalize hline : E2.rows.getD i [] = line at *; have hlg := Xj (k := 10) (hl := hly) (zs := delP cx (E2.rows.take (T.bas.length + 1)) i) (i := i) (by omega) (by omega); rw [hat] at hlg; generalize hcur : delP cx (E2.rows.take (T.bas.length + 1)) i = cur at *; refine QK (Qz (Qy (Q5 (Qy (Qx fun K hK => ?_))))); refine Qq J J J (Qn 1 (T.bas.length + 1) J J J (by simp [hhy]) J sMat (by omega) (by omega) J ?_); rw [ki]
    refine QX J J J J (Zf (by omega)) lWhs J ?_
    refine Ops.hand (i + 10) (T.col.length + 2) (by exact hlg) (by rw [XV, hln]) (by omega) (by decide) (fun gb cc hh hcc hccm => ?_); rw [hh] at hlg; rw [hh]; refine Qv J J J (Qv J J J (Qj (hK _ _ (Qz ?_)))); clear hK K; have hdl := (Delete_whs gb (T.col.length + 2) cc line cx (by omega) (by omega) hcc (by omega)).nm (i + 10) (fun _ _ => .inl ⟨_, rfl⟩); refine St.drawQ mixed [9, 11] (.p 0 (.p 1 (.p 2 (.p 4 (.p 5 (.p 6 (.p 7 (.p 8 (.m 3 (.a 9 (.p 10 (.a 11 .done .non)) .non) (.a 9 (.m 3 (.p 10 (.a 11 .done .non)) .non) .non)))))))))) (by kernel_rfl) (fun K hK => ?_)
    refine (fun (cont : Go.Own.Fin _ [(0, .own 0), (5, .ct (intC T.bas.length)), (16, .ct (intC cx)), (201, .ct (.ex (kh g1 0 (T.bas.length + 1) c1))), (202, .ct (intC ((T.bas.length + 1 : Nat) : Int))), (203, .ct (intC i)), (17, .ct (intC i))]
      (bset ((i + 10, .rowx (kh gb 0 (T.col.length + 2 - 1) cc) 211 2 (whs (line.eraseIdx cx))) :: bdel ((0, .box 215 [.ex (kh g1 0 (T.bas.length + 1) c1), .ex T.hB, .ex (kh g3 0 T.col.length c3), boolC (decide (E2.den < 0)), natC E2.den.natAbs]) :: (1, .rowx (kh g1 0 (T.bas.length + 1) c1) 212 1 (hly.map CT.ex)) :: (2, .rowx T.hB 3 1 (ints E2.bas)) :: (3, .rowx (kh g3 0 T.col.length c3) 3 1 (ints (E2.col.eraseIdx cx))) :: linesB 10 hly cur) (i + 10)) 1 (.rowx (kh g1 0 (T.bas.length + 1) c1) 212 1 ((hly.map CT.ex).set i (.ex (kh gb 0 (T.col.length + 2 - 1) cc))))) K) => ?_) (hK _ _ ?_)
    rotate_left
    · clear hK K; refine Qz (Qx fun K hK => ?_)
      refine Qk (iadd (by omega) (by omega)) J J J J ?_
      refine Qq J J J (Qj (hK _ _ (Q7 ?_))); clear hK K
      refine Qb (i + 1, hly.set i (kh gb 0 (T.col.length + 2 - 1) cc)) (by dsimp only; omega) ⟨by dsimp only; omega, by dsimp only; rw [List.length_set]; exact hhy⟩ (by exact (Y0 (by
        dsimp only
        rw [← hset, List.map_set]; exact upd_B (by omega) (by omega)) ⟨rfl, rfl, rfl, rfl, rfl, by simp only [Int.natCast_add]; rfl, trivial⟩))
    clear hK; refine Qr (Qq J J J (Qj ?_)); refine Qr (QW J J J J (Qj ?_)); refine Qr (QJ J J J fT0 J (Qj ?_)); refine Qr (Qq J J J (Qj ?_)); refine Qr (Qq J J J (Qj ?_)); refine Qr (Qq J J J (Qj ?_)); refine Qr (Qq J J J (Qj ?_)); refine Qr (Qk (iadd (by omega) (by omega)) J J J J (Qj ?_))
    refine X1 ?_ ?_
    · refine QX J J J J J lMat J (Qj ?_)
      refine Qm ?_ Q8
      refine Ops.call1 (i + 10) goDelete_whs hdl J J J hbor (by exact hlg) (fun p hp => ?_) (fun q j hq => ?_) (fun _ _ => ?_); rotate_left; rotate_left
      · refine Qj (Qr (Qn 1 (T.bas.length + 1) J J J (by simp [hhy]) J sMat (by omega) (by omega) J ?_)); rw [ki]; refine Qj (Qm (Xq J J J J J zWhs (by simp [Ent.cs, hhy]; omega) (Qj ?_)) Q8); exact Xk (YV cont ⟨rfl, rfl, rfl, rfl, rfl, rfl, rfl, trivial⟩)
      · obtain ⟨k, hk, rfl⟩ := List.mem_map.1 hp
        obtain rfl : k = 0 := by simpa using hk
        exact ⟨by simp, rfl⟩
      · rcases hq with hq | ⟨o, hq⟩ <;> simp [Sl.ren] at hq
    · refine Qm ?_ Q8
      refine Ops.call1 (i + 10) goDelete_whs hdl J J J hbor (by exact hlg) (fun p hp => ?_) (fun q j hq => ?_) (fun _ _ => ?_); rotate_left; rotate_left
      · refine Qj (X1 ?_ Q8); refine QX J J J J J lMat J (Qj ?_); refine Qr (Qn 1 (T.bas.length + 1) J J J (by simp [hhy]) J sMat (by omega) (by omega) J ?_); rw [ki]; refine Qj (Qm (Xq J J J J J zWhs (by simp [Ent.cs, hhy]; omega) (Qj ?_)) Q8); exact Xk (YV cont ⟨rfl, rfl, rfl, rfl, rfl, rfl, rfl, trivial⟩)
      · obtain ⟨k, hk, rfl⟩ := List.mem_map.1 hp
        obtain rfl : k = 0 := by simpa using hk
        exact ⟨by simp, rfl⟩
      · rcases hq with hq | ⟨o, hq⟩ <;> simp [Sl.ren] at hq
  have hi' : i = T.bas.length + 1 := by omega
  subst hi'; refine Qo (Qz (Qy (Qx fun K hK => ?_))); refine Qv J J J (Qj (hK _ _ (Qz (Q0 ?_)))); clear hK K; refine YQ ⟨kh g1 0 (T.bas.length + 1) c1, T.hB, kh g3 0 T.col.length c3, hly, [], [], [], 0⟩ [_] rfl (QQ J QZ) (by rw [hres]; rfl) (fun j => by rw [hout, hE3d]; rfl) (by rw [hout, hE3d]; show hly.length = _; rw [hhy]; show _ = (delP cx _ _).length; rw [delP_len, hrt])
end Go.Proofs.YtojkdfilabmafaaGreat
namespace Go.Proofs.YtojkdfilabmafaaGreat
open Go.Own Go.Limbs
attribute [local irreducible] St Ops Go.Own.Fin Ok OkM
set_option maxHeartbeats 64000000 in
theorem start_ok (T E : Tv) (art : Int) (ha1 : -1152921504606846976 ≤ art) (ha2 : art ≤ 1152921504606846976) (hF : Fit T) (hm : T.rows.length = T.bas.length + 1) (hS : Shrt T) (hfull : ∀ h ∈ T.hl, ∃ gb, h = kh gb 0 (T.col.length + 1) (T.col.length + 1)) (hrun : 0 ≤ wrS T T.bas.length → StartRun T art E) (hw1 : T.rows.length ≤ 90) (hw2 : T.col.length ≤ 90) :
    OkM Tryz.prog 139 [.own 0, .ct (intC art)] (tabB T) [0] (fun H : Tv => H.hl.length = (stOut T E art).rows.length) (fun _ => .ct (boolC (stRes T E))) (fun H => tabB ((stOut T E art).wh H)) := by
  have hhl := hF.hl; have hof0 := of_ok 0 (by decide) (by decide); have hof1 := of_ok 1 (by decide) (by decide); have hofm := of_ok (-1) (by decide) (by decide)
  have kl2 : (T.col.length : Int).toNat * 2 = T.col.length * 2 := by omega
  refine OkM.enter Tryz.func139 J _ Tryz.ntmps139 J (tab_fx T) ?_
  intro S w ρ0 hbor
  have hfix : ∀ p ∈ (lentM Tryz.prog 220 S w (tabB T) [0] ρ0).fix, (bget [] p.1).isSome = true ∨ p.1 ∈ [0] := fun p hp => by
    obtain ⟨i, hi, rfl⟩ := List.mem_map.1 hp; exact .inr hi
  simp only [tabB]; refine Qy (Qx fun K hK => ?_); refine Qv J J J (Qj (hK _ _ (Qz (Qy ?_)))); clear hK K; refine Xw mixed 12 (.p 0 (.p 1 (.p 2 (.p 5 (.p 6 (.p 7 (.f 3 (.p 4 (.p 10 (.f 8 (.p 9 (.p 11 .done)))))))))))) (by kernel_rfl) (fun K hK => ?_); refine Qq J J J (QW J J J J (QJ J J J fT1 J (Qq J J J (QW J J J J (QJ J J J fT2 J (QX J J J J J lInts J (ZW 2 T.bas.length J J J (by decide) (by simp) sInts.und J ?_))))))); refine Qv J J J (QX J J J J J lInts J (ZW 3 T.col.length J J J (by decide) (by simp) sInts.und J ?_)); refine Qv J J J (Qj (hK _ _ (Qz (Qy ?_)))); clear hK K; refine Qx (fun K hK => ?_); refine Qv J J J (Qj (hK _ _ (Qz (Qy (Qy ?_))))); clear hK K; refine Qx (fun K hK => ?_); refine Qq J J J (Qq J J J (Qj (hK _ _ (Qz (Q5 ?_))))); clear hK K
  refine Qs (α := Nat) (fun i => i ≤ T.bas.length)
    (fun i => [(0, .own 0), (1, .ct (intC art)), (5, .ct (intC T.bas.length)), (6, .ct (intC T.col.length)), (7, .ct (intC (wrS T i))), (29, .ct (intC T.bas.length)), (30, .ct (intC i))])
    (fun _ => tabB T) (fun i => T.bas.length - i) 0 (Nat.zero_le _) (by exact Qu J ⟨rfl, rfl, rfl, rfl, rfl, rfl, rfl, trivial⟩) ?_
  intro i hi; dsimp only at hi ⊢; have wb := wrS_bd T i
  have ws : wrS T (i + 1) = if T.at i T.col.length < 0 ∧ (wrS T i < 0 ∨ T.at i T.col.length + -(T.at (wrS T i).toNat T.col.length) < 0) then (i : Int) else wrS T i := rfl
  generalize hwr : wrS T i = wr at *; simp only [tabB]; refine Qy (Qx fun K hK => ?_); refine Qk ilss J J J J (Qj (hK _ _ (Qz (Qy ?_)))); clear hK K; refine Q2 J (fun h => ?_) (fun h => ?_)
  · have hi2 : i < T.rows.length := by omega
    have hrow := hF.row i hi2
    have ki : (i : Int).toNat * 1 = i := by omega
    have sb := hS i T.col.length; refine QK (Qz (Qy (Q5 (Qy (Qx fun K hK => ?_))))); refine Qq J J J (Qv J J J (Qj (hK _ _ (Qz (Qy ?_))))); clear hK K; refine Qx (fun K hK => ?_); refine Qq J J J (QW J J J J (QJ J J J fT0 J (QX J J J J J lMat J (Qq J J J (Qn 1 T.rows.length J J J (by simp [hhl]) J sMat (by omega) (by omega) J ?_))))); rw [ki]
    refine QX J J J J (Zf (by omega)) lWhs J ?_
    refine Qq J J J (Qn (i + 10) (T.col.length + 1) J J (Xj (by omega) hi2) (by rw [XV, hrow]) J sWhs (by omega) (by omega) J ?_); rw [kl2]
    refine ldWh J J J (Xj (by omega) hi2) J (by omega) lWh J ?_
    generalize hb : T.at i T.col.length = b at *; rw [show (T.rows.getD i []).getD T.col.length 0 = b from hb]
    refine Qi 4 J J zvWh J (by exact Z0 10 _ _ 4 (by decide)) J ?_
    refine Qd 2 J J J J J szWh J J (Qj (hK _ _ (Qz (Qy ?_)))); clear hK K; refine Xw mixed 24 (.f 0 (.m 1 (.p 2 (.p 3 (.p 4 (.p 5 (.p 6 (.p 8 (.p 9 (.p 10 (.p 12 (.p 15 (.f 7 (.f 11 (.p 13 (.f 14 (.p 16 (.f 17 (.m 18 (.m 19 (.m 20 (.p 21 (.p 22 (.p 23 .done)))))))))))))))))))))))) (by kernel_rfl) (fun K hK => ?_); refine (fun (cont : ∀ c : Bool, (c = true ↔ (b < 0 ∧ (wr < 0 ∨ b + -(T.at wr.toNat T.col.length) < 0))) → Go.Own.Fin _ [(66, .ct (boolC c)), (0, .own 0), (1, .ct (intC art)), (5, .ct (intC T.bas.length)), (6, .ct (intC T.col.length)), (7, .ct (intC wr)), (8, .ct (intC i)), (29, .ct (intC T.bas.length)), (30, .ct (intC i))] ((4, .box 211 (whCs b)) :: tabB T) K) => ?_) (fun c hc => hK _ _ ?_); rotate_left
    · clear hK K; simp only [tabB]; refine Qz (X4 J (fun h2 => ?_) (fun h2 => ?_))
      · have hP := hc.1 h2; refine Qx (fun K hK => ?_); refine Qq J J J (Qv J J J (Qj (hK _ _ (Qz ?_)))); clear hK K; refine Qx (fun K hK => ?_)
        refine Qk (iadd (by omega) (by omega)) J J J J ?_
        refine Qq J J J (Qj (hK _ _ (Q7 ?_))); clear hK K; refine Qb (i + 1) (by omega) (by omega) (by exact Qc 4 (Qu (by exact del4) ⟨rfl, rfl, rfl, rfl, by rw [ws, if_pos hP]; rfl, rfl, by simp only [Int.natCast_add]; rfl, trivial⟩))
      · have hP : ¬ (b < 0 ∧ (wr < 0 ∨ b + -(T.at wr.toNat T.col.length) < 0)) := fun hp => by have := hc.2 hp; rw [h2] at this; cases this
        refine QK (Qz (Qx fun K hK => ?_))
        refine Qk (iadd (by omega) (by omega)) J J J J ?_
        refine Qq J J J (Qj (hK _ _ (Q7 ?_))); clear hK K; refine Qb (i + 1) (by omega) (by omega) (by exact Qc 4 (Qu (by exact del4) ⟨rfl, rfl, rfl, rfl, by rw [ws, if_neg hP]; rfl, rfl, by simp only [Int.natCast_add]; rfl, trivial⟩))
    clear hK; refine Qe (n := 2) J J J J J lWh J (QV gosign (YJ b) J J J J (Qk ilss J J J J (Qq J J J (Qf 46 J (fun h1 => ?_) (fun h1 => ?_)))))
    · have hb0 : b < 0 := sgn_lt.1 h1; refine Qq J J J (Qk ilss J J J J (Qq J J J (Qf 49 J (fun h2 => ?_) (fun h2 => ?_))))
      · refine Qw J J J (Qw J J J (Qw J J J (Qw J J J (Qw J J J (Qw J J J (Qw J J J (Qw J J J (Qw J J J (Qw J J J (Qw J J J (Qw J J J (Qw J J J (Qw J J J (Qw J J J (Q3 J J J J (Q3 J J J J ?_)))))))))))))))); exact Qj (YV (cont true ⟨fun _ => ⟨hb0, .inl h2⟩, fun _ => rfl⟩) ⟨rfl, rfl, rfl, rfl, rfl, rfl, rfl, rfl, rfl, trivial⟩)
      · obtain ⟨q, rfl⟩ : ∃ q : Nat, wr = q := ⟨wr.toNat, by omega⟩
        have hq2 : q < T.rows.length := by omega
        have hrowq := hF.row q hq2
        have kq : (q : Int).toNat * 1 = q := by omega
        have sq := hS q T.col.length; rw [Int.toNat_natCast] at cont; generalize hb2 : T.at q T.col.length = b2 at *; refine Qq J J J (QW J J J J (QJ J J J fT0 J (Qq J J J (Qq J J J (Qe (n := 2) J J J J J lWh J (QX J J J J J lMat J (Qn 1 T.rows.length J J J (by simp [hhl]) J sMat (by omega) (by omega) J ?_))))))); rw [kq]
        refine QX J J J J (Zf (by omega)) lWhs J ?_
        skip
        refine Qn (q + 10) (T.col.length + 1) J J (Xj (by omega) hq2) (by rw [XV, hrowq]) J sWhs (by omega) (by omega) J ?_
        rw [kl2]
        refine ldWh J J J (Xj (by omega) hq2) J (by omega) lWh J ?_
        rw [show (T.rows.getD q []).getD T.col.length 0 = b2 from hb2]; refine QV gominus (minus_ok b2) J J J J (QV goplus (plus_ok b (-b2) (by omega) (Nat.le_trans (neg_short sq) (by decide))) J J J J ?_); refine QV gosign (YJ _) J J J J (Qk ilss J J J J (Q6 J J J J (Q3 J J J J (Qj (YV (cont (decide ((b + -b2).sign < 0)) ⟨fun hd => ⟨hb0, .inr (sgn_lt.1 (of_decide_eq_true hd))⟩, fun hd => decide_eq_true (sgn_lt.2 (hd.2.resolve_left h2))⟩) ⟨rfl, rfl, rfl, rfl, rfl, rfl, rfl, rfl, rfl, trivial⟩)))))
    · refine Qw J J J (Qw J J J (Qw J J J (Qw J J J (Qw J J J (Qw J J J (Qw J J J (Qw J J J (Qw J J J (Qw J J J (Qw J J J (Qw J J J (Qw J J J (Qw J J J (Qw J J J (Qw J J J (Qw J J J (Qw J J J (Qw J J J (Q6 J J J J ?_))))))))))))))))))); exact Qj (YV (cont false ⟨fun hd => by (cases hd), fun hd => absurd (sgn_lt.2 hd.1) h1⟩) ⟨rfl, rfl, rfl, rfl, rfl, rfl, rfl, rfl, rfl, trivial⟩)
  have hi' : i = T.bas.length := by omega
  subst hi'; simp only [tabB]; refine Qo (Qz (Qy (Qy (Qx fun K hK => ?_)))); refine Qq J J J (Qk ilss J J J J (Qj (hK _ _ (Qz ?_)))); clear hK K; refine Q2 J (fun h2 => ?_) (fun h2 => ?_)
  · have e1 : stOut T E art = T := by unfold stOut; rw [hwr, if_pos h2]
    have e2 : stRes T E = true := by unfold stRes; rw [hwr, decide_eq_true h2]; rfl
    refine Qy (Qx fun K hK => ?_); refine Qv J J J (Qj (hK _ _ (Qz (Q0 (QY ?_))))); clear hK K; refine YQ T [_] rfl (QQ J QZ) (by rw [e2]; rfl) (fun j => by rw [e1]; rfl) (by rw [e1]; exact hhl)
  obtain ⟨w0, rfl⟩ : ∃ q : Nat, wr = q := ⟨wr.toNat, by omega⟩; have R := hrun (by omega); have hG1 := R.gd; obtain ⟨sE, kE, hE⟩ := R.run; rw [hwr, Int.toNat_natCast] at hE
  have hrl2 : (T.rows ++ [List.replicate (T.col.length + 1) (0 : Int)]).length = T.rows.length + 1 := by simp
  refine QK (Qz (Qy (Qx fun K hK => ?_))); refine Qq J J J (Qk (iadd (by omega) (by omega)) J J J J ?_); refine Ops.makeX (T.hl.length + 10) (T.col.length + 1) J J J (by omega) sWhs (by omega) (by omega) J (by exact lines_ge (.inl (Nat.le_refl _))) J (fun gbz => ?_)
  refine Ops.weakX (T.hl.length + 10) (whs (List.replicate (T.col.length + 1) 0)) (Qa ..) (whs_zero (T.col.length + 1)) ?_
  rw [ZK]; refine Qv J J J (Qj (hK _ _ (Qz (Qy ?_)))); clear hK K; refine Qx (fun K hK => ?_); refine Qq J J J (Qq J J J (QW J J J J (QJ J J J fT0 J (QX J J J J J lMat J (Qq J J J (Xn J J sMat J J J (X6 78 1 J J (Qt T.hl.length ((T.hl ++ [kh gbz 0 (T.col.length + 1) (T.col.length + 1)]).map CT.ex) J J J J sMat (by simp) J (by omega) (by omega) (by simp) J ?_)))))))); refine XY 81 1 (T.hl.length + 1) J J (by simp) (by omega) (by decide) (fun g1 c1 hc1 hc1m => ?_); refine QW J J J J (QJ J J J fT0 J (Xq J J J J J zMat (Nat.le_of_ble_eq_true J) (Qj (hK _ _ (Qz (Qy (Qy ?_))))))); clear hK K; refine Qx (fun K hK => ?_); refine Qq J J J (QW J J J J (QJ J J J fT0 J (QX J J J J J lMat J ?_)))
  have hfull2 : ∀ k, k < (T.hl ++ [kh gbz 0 (T.col.length + 1) (T.col.length + 1)]).length → ∃ gb, (T.hl ++ [kh gbz 0 (T.col.length + 1) (T.col.length + 1)]).getD k default = kh gb 0 (T.col.length + 1) (T.col.length + 1) := fun k hk => by
    have hmem := getD_mem (z := default) hk; rcases List.mem_append.1 hmem with h3 | h3
    · exact hfull _ h3
    · exact ⟨gbz, by simpa using h3⟩
  refine ZW 1 (T.hl.length + 1) J J J (by decide) (by simp) sMat.und J ?_
  refine Qq J J J (Qj (hK _ _ (Qz (Q5 ?_)))); clear hK K
  refine Qs (α := Nat × List Value) (fun x => x.1 ≤ T.hl.length + 1 ∧ x.2.length = T.hl.length + 1 ∧ ∀ k, x.1 ≤ k → k < x.2.length → ∃ gb, x.2.getD k default = kh gb 0 (T.col.length + 1) (T.col.length + 1))
    (fun x => [(0, .own 0), (1, .ct (intC art)), (5, .ct (intC T.bas.length)), (6, .ct (intC T.col.length)), (7, .ct (intC w0)), (87, .ct (.ex (kh g1 0 (T.hl.length + 1) c1))), (88, .ct (intC ((T.hl.length + 1 : Nat) : Int))), (89, .ct (intC x.1))])
    (fun x => (0, .box 215 [.ex (kh g1 0 (T.hl.length + 1) c1), .ex T.hB, .ex T.hC, boolC (decide (T.den < 0)), natC T.den.natAbs]) :: (1, .rowx (kh g1 0 (T.hl.length + 1) c1) 212 1 (x.2.map CT.ex)) :: (2, .rowx T.hB 3 1 (ints T.bas)) :: (3, .rowx T.hC 3 1 (ints T.col)) :: linesB 10 x.2 (insP T.bas.length T.col.length (T.rows ++ [List.replicate (T.col.length + 1) 0]) x.1))
    (fun x => T.hl.length + 1 - x.1) (0, T.hl ++ [kh gbz 0 (T.col.length + 1) (T.col.length + 1)]) ⟨Nat.zero_le _, by simp, fun k _ hk => hfull2 k hk⟩ (by exact Y0 (by dsimp only; rw [insP_zero]; exact step_B2 hhl) ⟨rfl, rfl, rfl, rfl, rfl, rfl, rfl, rfl, trivial⟩) ?_
  rintro ⟨i, hlx⟩ ⟨hi, hhx, hfx⟩
  dsimp only at hi hhx hfx ⊢; have hil := insP_len T.bas.length T.col.length (T.rows ++ [List.replicate (T.col.length + 1) 0]) i; refine Qy (Qx fun K hK => ?_); refine Qk ilss J J J J (Qj (hK _ _ (Qz (Qy ?_)))); clear hK K; refine Q2 J (fun h3 => ?_) (fun h3 => ?_)
  · have hi2 : i < (T.rows ++ [List.replicate (T.col.length + 1) (0 : Int)]).length := by omega
    have ki : (i : Int).toNat * 1 = i := by omega
    obtain ⟨gbi, hgi⟩ := hfx i (Nat.le_refl _) (by omega); have hat := insP_at T.bas.length T.col.length (T.rows ++ [List.replicate (T.col.length + 1) 0]) i hi2; have hset := insP_set T.bas.length T.col.length (T.rows ++ [List.replicate (T.col.length + 1) 0]) i hi2
    have hln : ((T.rows ++ [List.replicate (T.col.length + 1) (0 : Int)]).getD i []).length = T.col.length + 1 := by
      rcases Nat.lt_or_ge i T.rows.length with h4 | h4
      · rw [List.getD_eq_getElem?_getD, List.getElem?_append_left h4, ← List.getD_eq_getElem?_getD]; exact hF.row i h4
      · have : i = T.rows.length := by omega
        subst this; simp [List.getD_eq_getElem?_getD]
    have hsetl : insL T.bas.length T.col.length i ((T.rows ++ [List.replicate (T.col.length + 1) (0 : Int)]).getD i []) = ((T.rows ++ [List.replicate (T.col.length + 1) (0 : Int)]).getD i []).take T.col.length ++ insX T.bas.length i :: ((T.rows ++ [List.replicate (T.col.length + 1) (0 : Int)]).getD i []).drop T.col.length := rfl; generalize hline : (T.rows ++ [List.replicate (T.col.length + 1) (0 : Int)]).getD i [] = line at *; have hlg := Xj (k := 10) (hl := hlx) (zs := insP T.bas.length T.col.length (T.rows ++ [List.replicate (T.col.length + 1) 0]) i) (i := i) (by omega) (by omega); rw [hat, hgi] at hlg; generalize hcur : insP T.bas.length T.col.length (T.rows ++ [List.replicate (T.col.length + 1) 0]) i = cur at *; refine QK (Qz (Qy (Q5 (Qy (Qx fun K hK => ?_))))); refine Qq J J J (Qn 1 (T.hl.length + 1) J J J (by simp [hhx]) J sMat (by omega) (by omega) J ?_); rw [ki]
    refine QX J J J J (Zf (by omega)) lWhs J ?_
    rw [hgi]; refine Qv J J J (Qv J J J (Qj (hK _ _ (Qz (Qy ?_))))); clear hK K; refine Qx (fun K hK => ?_); refine QV goof hof0 J J J J (Qi 4 J J zvWh J (by exact Z0 10 _ _ 4 (by decide)) J ?_); refine Qd 2 J J J J J szWh J J (Qj (hK _ _ (Qz (Qy (Qy ?_))))); clear hK K; refine Qx (fun K hK => ?_); refine Qq J J J (Qq J J J (Qk ilss J J J J (Qj (hK _ _ (Qz ?_))))); clear hK K
    refine Y4 (α := Unit) (fun _ => True) (fun _ => [(0, .own 0), (1, .ct (intC art)), (5, .ct (intC T.bas.length)), (6, .ct (intC T.col.length)), (7, .ct (intC w0)), (11, .ct (intC i)), (12, .ct (.ex (kh gbi 0 (T.col.length + 1) (T.col.length + 1)))), (13, .own 4), (87, .ct (.ex (kh g1 0 (T.hl.length + 1) c1))), (88, .ct (intC ((T.hl.length + 1 : Nat) : Int))), (89, .ct (intC i))])
      (fun _ => (4, .box 211 (whCs (insX T.bas.length i))) :: (0, .box 215 [.ex (kh g1 0 (T.hl.length + 1) c1), .ex T.hB, .ex T.hC, boolC (decide (T.den < 0)), natC T.den.natAbs]) :: (1, .rowx (kh g1 0 (T.hl.length + 1) c1) 212 1 (hlx.map CT.ex)) :: (2, .rowx T.hB 3 1 (ints T.bas)) :: (3, .rowx T.hC 3 1 (ints T.col)) :: linesB 10 hlx cur) (fun _ _ => ?_) (fun KK hN => ?_)
    rotate_left
    · refine Q2 J (fun h4 => ?_) (fun h4 => ?_)
      · have ex : insX T.bas.length i = -1 := by unfold insX; rw [if_pos (by omega)]
        refine Qx (fun K hK => ?_); refine QV goof hofm J J J J (Qd 2 J J J J J szWh J J (Qj (hK _ _ ?_))); clear hK K; exact Xv hN () trivial (by exact Qu (by rw [ex]; rfl) ⟨rfl, rfl, rfl, rfl, rfl, rfl, rfl, rfl, rfl, rfl, rfl, trivial⟩)
      · refine Qy (Qx fun K hK => ?_); refine Qq J J J (Qq J J J (Qk (iadd (by omega) (by omega)) J J J J ?_)); refine Qk ieql J J J J (Qj (hK _ _ (Qz ?_))); clear hK K; refine Q2 J (fun h5 => ?_) (fun h5 => ?_)
        · have ex : insX T.bas.length i = 1 := by unfold insX; rw [if_neg (by omega), if_pos (by omega)]
          refine Qx (fun K hK => ?_); refine QV goof hof1 J J J J (Qd 2 J J J J J szWh J J (Qj (hK _ _ ?_))); clear hK K; exact Xv hN () trivial (by exact Qu (by rw [ex]; rfl) ⟨rfl, rfl, rfl, rfl, rfl, rfl, rfl, rfl, rfl, rfl, rfl, trivial⟩)
        · have ex : insX T.bas.length i = 0 := by unfold insX; rw [if_neg (by omega), if_neg (by omega)]
          refine QK ?_
          exact Xv hN () trivial (by exact Qu (by rw [ex]; rfl) ⟨rfl, rfl, rfl, rfl, rfl, rfl, rfl, rfl, rfl, rfl, rfl, trivial⟩)
    generalize hxx : insX T.bas.length i = xx at *; have hins := (Insert_ok gbi (T.col.length + 1) line T.col.length xx hln (by omega) (by omega)).nm (i + 10) (fun _ _ => .inr J); refine St.drawQ mixed [9, 11] (.p 0 (.p 1 (.p 2 (.p 4 (.p 5 (.p 6 (.f 7 (.m 3 (.m 8 (.a 9 (.p 10 (.a 11 .done .non)) .non) .non) (.m 8 (.m 3 (.a 9 (.p 10 (.a 11 .done .non)) .non) (.a 9 (.m 3 (.p 10 (.a 11 .done .non)) .non) .non)) .non))))))))) (by kernel_rfl) (fun K hK => ?_)
    refine (fun (cont : ∀ x : Nat × Nat, (T.col.length + 2 ≤ x.2 ∧ x.2 ≤ maxLen) → Go.Own.Fin _ [(0, .own 0), (1, .ct (intC art)), (5, .ct (intC T.bas.length)), (6, .ct (intC T.col.length)), (7, .ct (intC w0)), (87, .ct (.ex (kh g1 0 (T.hl.length + 1) c1))), (88, .ct (intC ((T.hl.length + 1 : Nat) : Int))), (89, .ct (intC i))]
      (bset ((i + 10, .rowx (kh x.1 0 (T.col.length + 2) x.2) 211 2 (whs (line.take T.col.length ++ xx :: line.drop T.col.length))) :: bdel ((4, .box 211 (whCs xx)) :: (0, .box 215 [.ex (kh g1 0 (T.hl.length + 1) c1), .ex T.hB, .ex T.hC, boolC (decide (T.den < 0)), natC T.den.natAbs]) :: (1, .rowx (kh g1 0 (T.hl.length + 1) c1) 212 1 (hlx.map CT.ex)) :: (2, .rowx T.hB 3 1 (ints T.bas)) :: (3, .rowx T.hC 3 1 (ints T.col)) :: linesB 10 hlx cur) (i + 10)) 1 (.rowx (kh g1 0 (T.hl.length + 1) c1) 212 1 ((hlx.map CT.ex).set i (.ex (kh x.1 0 (T.col.length + 2) x.2))))) K) => ?_) (fun x hx => hK _ _ ?_)
    rotate_left
    · obtain ⟨g2, c2⟩ := x; clear hK K; refine Qz (Qx fun K hK => ?_)
      refine Qk (iadd (by omega) (by omega)) J J J J ?_
      refine Qq J J J (Qj (hK _ _ (Q7 ?_))); clear hK K
      refine Qb (i + 1, hlx.set i (kh g2 0 (T.col.length + 2) c2)) (by dsimp only; omega) ⟨by dsimp only; omega, by dsimp only; rw [List.length_set]; exact hhx, fun k hk1 hk2 => ?_⟩ (by exact Qc 4 (Y0 (by
        dsimp only
        rw [← hset, hsetl, List.map_set]; exact upd_B4 (by omega) (by omega)) ⟨rfl, rfl, rfl, rfl, rfl, rfl, rfl, by simp only [Int.natCast_add]; rfl, trivial⟩))
      dsimp only at hk1 hk2 ⊢; rw [List.length_set] at hk2; obtain ⟨gb, hgb⟩ := hfx k (by omega) hk2; exact ⟨gb, by rw [List.getD_eq_getElem?_getD, List.getElem?_set_ne (by omega), ← List.getD_eq_getElem?_getD]; exact hgb⟩
    clear hK; refine Qr (Qq J J J (Qj ?_)); refine Qr (QW J J J J (Qj ?_)); refine Qr (QJ J J J fT0 J (Qj ?_)); refine Qr (Qq J J J (Qj ?_)); refine Qr (Qq J J J (Qj ?_)); refine Qr (Qq J J J (Qj ?_)); refine Zv (Qe (n := 2) J J J J J lWh J (Qj ?_))
    refine X1 ?_ ?_
    · refine QX J J J J J lMat J (Qj ?_)
      refine X1 ?_ Q8
      refine Zt (n := 2) J J sWhs J J (by decide) J (Qj ?_)
      refine Qm ?_ Q8
      refine Ops.call1 (i + 10) goInsert hins J J J hbor (by exact hlg) (fun p hp => ?_) (fun q j hq => ?_) (fun _ _ => ?_); rotate_left; rotate_left
      · refine XY 113 (i + 10) (T.col.length + 2) J (Qa ..) (by rw [XV, List.length_append, List.length_cons, List.length_take, List.length_drop]; omega) (by omega) (by decide) (fun g2 c2 hc2 hc2m => ?_); rw [ZK]; refine Qj (Qr (Qn 1 (T.hl.length + 1) J J J (by simp [hhx]) J sMat (by omega) (by omega) J ?_)); rw [ki]; refine Qj (Qm (Xq J J J J J zWhs (by simp [Ent.cs, hhx]; omega) (Qj ?_)) Q8); exact Xk (YV (cont (g2, c2) ⟨hc2, hc2m⟩) ⟨rfl, rfl, rfl, rfl, rfl, rfl, rfl, rfl, trivial⟩)
      · obtain ⟨k, hk, rfl⟩ := List.mem_map.1 hp
        obtain rfl : k = 0 := by simpa using hk
        exact ⟨by simp, rfl⟩
      · rcases hq with hq | ⟨o, hq⟩ <;> simp [Sl.ren] at hq; exact hq.symm
    · refine X1 ?_ Q8
      refine Zt (n := 2) J J sWhs J J (by decide) J (Qj ?_)
      refine X1 ?_ ?_
      · refine QX J J J J J lMat J (Qj ?_)
        refine Qm ?_ Q8
        refine Ops.call1 (i + 10) goInsert hins J J J hbor (by exact hlg) (fun p hp => ?_) (fun q j hq => ?_) (fun _ _ => ?_); rotate_left; rotate_left
        · refine XY 113 (i + 10) (T.col.length + 2) J (Qa ..) (by rw [XV, List.length_append, List.length_cons, List.length_take, List.length_drop]; omega) (by omega) (by decide) (fun g2 c2 hc2 hc2m => ?_); rw [ZK]; refine Qj (Qr (Qn 1 (T.hl.length + 1) J J J (by simp [hhx]) J sMat (by omega) (by omega) J ?_)); rw [ki]; refine Qj (Qm (Xq J J J J J zWhs (by simp [Ent.cs, hhx]; omega) (Qj ?_)) Q8); exact Xk (YV (cont (g2, c2) ⟨hc2, hc2m⟩) ⟨rfl, rfl, rfl, rfl, rfl, rfl, rfl, rfl, trivial⟩)
        · obtain ⟨k, hk, rfl⟩ := List.mem_map.1 hp
          obtain rfl : k = 0 := by simpa using hk
          exact ⟨by simp, rfl⟩
        · rcases hq with hq | ⟨o, hq⟩ <;> simp [Sl.ren] at hq; exact hq.symm
      · refine Qm ?_ Q8
        refine Ops.call1 (i + 10) goInsert hins J J J hbor (by exact hlg) (fun p hp => ?_) (fun q j hq => ?_) (fun _ _ => ?_); rotate_left; rotate_left
        · refine XY 113 (i + 10) (T.col.length + 2) J (Qa ..) (by rw [XV, List.length_append, List.length_cons, List.length_take, List.length_drop]; omega) (by omega) (by decide) (fun g2 c2 hc2 hc2m => ?_); rw [ZK]; refine Qj (X1 ?_ Q8); refine QX J J J J J lMat J (Qj ?_); refine Qr (Qn 1 (T.hl.length + 1) J J J (by simp [hhx]) J sMat (by omega) (by omega) J ?_); rw [ki]; refine Qj (Qm (Xq J J J J J zWhs (by simp [Ent.cs, hhx]; omega) (Qj ?_)) Q8); exact Xk (YV (cont (g2, c2) ⟨hc2, hc2m⟩) ⟨rfl, rfl, rfl, rfl, rfl, rfl, rfl, rfl, trivial⟩)
        · obtain ⟨k, hk, rfl⟩ := List.mem_map.1 hp
          obtain rfl : k = 0 := by simpa using hk
          exact ⟨by simp, rfl⟩
        · rcases hq with hq | ⟨o, hq⟩ <;> simp [Sl.ren] at hq; exact hq.symm
  have hi' : i = T.hl.length + 1 := by omega
  subst hi'
  have hcurE : insP T.bas.length T.col.length (T.rows ++ [List.replicate (T.col.length + 1) 0]) (T.hl.length + 1) = (insT T art).rows := by rw [hhl]; rfl
  rw [hcurE]; rw [hcurE] at hil; refine Qo (Qz (Qy (Qx fun K hK => ?_))); refine Qq J J J (Qq J J J (QW J J J J (QJ J J J fT2 J (QX J J J J J lInts J (Qq J J J (Xn J J sInts J J J (X6 120 3 J J (Qt T.col.length (ints (T.col ++ [art])) J J J J sInts (by simp) J (by omega) (by omega) (by rw [ZU]; rfl) J ?_)))))))); refine XY 123 3 (T.col.length + 1) J J (by simp) (by omega) (by decide) (fun g3 c3 hc3 hc3m => ?_); refine QW J J J J (QJ J J J fT2 J (Xq J J J J J zInts (Nat.le_of_ble_eq_true J) (Qj (hK _ _ (Qz (Qy ?_)))))); clear hK K; refine Qx (fun K hK => ?_); refine Qq J J J (Qq J J J (Qq J J J ?_)); obtain ⟨H1, hH1⟩ : ∃ H1 : Tv, H1 = ⟨kh g1 0 (T.hl.length + 1) c1, T.hB, kh g3 0 (T.col.length + 1) c3, hlx, [], [], [], 0⟩ := ⟨_, rfl⟩
  have hH1l : H1.hl.length = (insT T art).rows.length := by rw [hH1, hil, hhx]; simp [hhl]
  have l1 : (insT T art).rows.length = T.rows.length + 1 := by rw [hil]; simp
  have l3 : (insT T art).col.length = T.col.length + 1 := by simp [insT]
  have lE := hE.lens; rw [Xb, pvt_bas, Z7, l1, l3, show (insT T art).bas = T.bas from rfl] at lE; obtain ⟨lE1, lE2, lE3⟩ := lE; have hGE := hE.last; have hGE1 := hGE.wh (H := H1) (by rw [hH1l, l1, lE1]); have hG1w := hG1.wh hH1l; have hpv := pivot_ok ((insT T art).wh H1) hG1w.fit hG1w.short hG1w.den hG1w.dens w0 T.col.length (by show w0 < T.bas.length; omega) (by show T.col.length < (insT T art).col.length; rw [l3]; omega); have hEw := hE.wh (H := H1) (by rw [Xb]; exact hH1l); rw [← pvt_wh] at hEw; have hmx := maximize_ok (pvt ((insT T art).wh H1) w0 T.col.length) (E.wh H1) (T.bas.length + 1) sE kE hEw (by rw [Xb]; show _ < (insT T art).rows.length; rw [l1]; omega)
  have hTeq : (insT T art).wh H1 = ⟨kh g1 0 (T.hl.length + 1) c1, T.hB, kh g3 0 (T.col.length + 1) c3, hlx, (insT T art).rows, T.bas, T.col ++ [art], T.den⟩ := by rw [hH1]; rfl
  refine X2 [] gopivot hpv J J J hbor (by rw [hTeq]; rfl) J hfix (fun _ _ => ?_); refine Qj (hK _ _ (Qz (Qy ?_))); clear hK K; refine Qx (fun K hK => ?_); refine Qq J J J (Qq J J J (Qk (iadd (by omega) (by omega)) J J J J ?_)); refine X2 [] gomaximize hmx J J J hbor J J hfix (fun _ _ => ?_); have hRd : (E.wh H1).rows = E.rows := rfl; have hBd : (E.wh H1).bas = E.bas := rfl
  have km1 : ((T.bas.length : Int) + 1).toNat * 1 = T.bas.length + 1 := by omega
  have kl3 : ((T.col.length : Int) + 1).toNat * 2 = (T.col.length + 1) * 2 := by omega
  have lH : H1.hl.length = T.rows.length + 1 := by rw [hH1l, l1]
  have hwn : ¬ wrS T T.bas.length < 0 := by rw [hwr]; omega
  have hrE := hGE.fit.row; rw [lE1, lE3] at hrE; have hrE1 := hrE (T.bas.length + 1) (by omega); refine Qj (hK _ _ (Qz (Qy (Qy ?_)))); clear hK K; refine Qx (fun K hK => ?_); refine Qq J J J (QW J J J J (QJ J J J fT0 J (QX J J J J J lMat J (Qq J J J (Qk (iadd (by omega) (by omega)) J J J J ?_)))))
  refine Qn 1 (T.rows.length + 1) J J J (by rw [List.length_map]; show H1.hl.length = _; omega) J sMat (by omega) (by omega) J ?_
  rw [km1]
  refine QX J J J J (Zf (by show _ < H1.hl.length; omega)) lWhs J ?_
  refine Qq J J J (Qk (iadd (by omega) (by omega)) J J J J ?_)
  refine Qn (T.bas.length + 1 + 10) (T.col.length + 2) J J (Xj (by show _ < H1.hl.length; omega) (by show _ < E.rows.length; omega)) (by rw [XV]; show (E.rows.getD (T.bas.length + 1) []).length * 2 = _; rw [hrE1]) J sWhs (by omega) (by omega) J ?_
  rw [kl3]
  refine ldWh J J J (Xj (by show _ < H1.hl.length; omega) (by show _ < E.rows.length; omega)) J (by show _ < (E.rows.getD (T.bas.length + 1) []).length; omega) lWh J ?_
  refine QV gosign (YJ (E.at (T.bas.length + 1) (T.col.length + 1))) J J J J ?_
  have hRp := R.piv; have hRf := R.fit2; have hRo := R.out
  have hout : stOut T E art = if E.at (T.bas.length + 1) (T.col.length + 1) < 0 then E else stE3 E T.bas.length T.col.length art := by unfold stOut; rw [if_neg hwn]
  have hres : stRes T E = !decide (E.at (T.bas.length + 1) (T.col.length + 1) < 0) := by unfold stRes; rw [decide_eq_false hwn, Bool.false_or]
  generalize E.at (T.bas.length + 1) (T.col.length + 1) = vE at *; refine Qk ilss J J J J (Qj (hK _ _ (Qz ?_))); clear hK K; refine Q2 J (fun h4 => ?_) (fun h4 => ?_)
  · have h5 := sgn_lt.1 h4; rw [if_pos h5] at hout; rw [decide_eq_true h5] at hres; refine Qy (Qx fun K hK => ?_); refine Qv J J J (Qj (hK _ _ (Qz (Q0 (QY ?_))))); clear hK K; refine YQ H1 [_] rfl (QQ J QZ) (by rw [hres]; rfl) (fun j => by rw [hout]; rfl) (by rw [hout, lH, lE1])
  have h5 : ¬ vE < 0 := fun h => h4 (sgn_lt.2 h)
  rw [if_neg h5] at hout; rw [decide_eq_false h5] at hres; have hRp := hRp h5; have hRf := hRf h5; have hRo := hRo h5; have hIx : Ok Tryz.prog 203 [intsC E.bas, intC art] (intC (fIx E.bas art)) := Index_ints E.bas art (by omega); have bIx := fIx_bd E.bas art; have bnz := nzC_bd (E := E) (last := T.col.length) (art := art); have hnzd : nzC E T.col.length art = idxI (fun x => decide (x ≠ 0)) ((E.rows.getD (fIx E.bas art).toNat []).take (T.col.length + 1)) := rfl
  have hE2d : stE2 E T.col.length art = if fIx E.bas art < 0 then E else pvt E (fIx E.bas art).toNat (nzC E T.col.length art).toNat := rfl
  refine QK (Qz (Qy (Qy (Qx fun K hK => ?_)))); refine Qq J J J (QW J J J J (QJ J J J fT1 J (QX J J J J J lInts J (Qq J J J (Ops.callRO 2 goIndex_ints hIx J J (fun a ρ w hI => ?_) J J ?_)))))
  · have h1 := hI.readX (i := 2) (el := 3) (n := 1) (v := H1.hB) (es := E.bas.map fun x => [intC x]) (by rw [ints_flat]; rfl) (by simp) (by decide) hbor; have h2 : a.eval (.tmp 151) = H1.hB := hI.evx J; exact ⟨by rw [h2]; exact h1, hI.evx J, trivial⟩
  generalize fIx E.bas art = rx at *; refine Qv J J J (Qj (hK _ _ (Qz (Qy ?_)))); clear hK K; refine Qx (fun K hK => ?_); refine Qq J J J (Qk igeq J J J J (Qj (hK _ _ (Qz ?_)))); clear hK K; have lE2' := stE2_lens E T.col.length art; have hE3d : stE3 E T.bas.length T.col.length art = { stE2 E T.col.length art with rows := delP (fIx (stE2 E T.col.length art).col art).toNat ((stE2 E T.col.length art).rows.take (T.bas.length + 1)) (T.bas.length + 1), col := (stE2 E T.col.length art).col.eraseIdx (fIx (stE2 E T.col.length art).col art).toNat, hl := (stE2 E T.col.length art).hl.take (T.bas.length + 1) } := rfl; generalize hE2 : stE2 E T.col.length art = E2 at *
  refine Y4 (α := Unit) (fun _ => True) (fun _ => [(0, .own 0), (1, .ct (intC art)), (5, .ct (intC T.bas.length)), (6, .ct (intC T.col.length))])
    (fun _ => (0, .box 215 [.ex (kh g1 0 (T.hl.length + 1) c1), .ex T.hB, .ex (kh g3 0 (T.col.length + 1) c3), boolC (decide (E2.den < 0)), natC E2.den.natAbs]) :: (1, .rowx (kh g1 0 (T.hl.length + 1) c1) 212 1 (hlx.map CT.ex)) :: (2, .rowx T.hB 3 1 (ints E2.bas)) :: (3, .rowx (kh g3 0 (T.col.length + 1) c3) 3 1 (ints E2.col)) :: linesB 10 hlx E2.rows) (fun _ _ => ?_) (fun KK hN => ?_)
  rotate_left
  · refine Q2 J (fun h6 => ?_) (fun h6 => ?_)
    · obtain ⟨q, rfl⟩ : ∃ q : Nat, rx = q := ⟨rx.toNat, by omega⟩; have hnz := hRp h6; rw [Int.toNat_natCast] at hnzd; rw [if_neg (by omega), Int.toNat_natCast] at hE2d
      have hq2 : q < T.rows.length + 1 := by omega
      have hrq := hrE q (by omega)
      have kq : (q : Int).toNat * 1 = q := by omega
      obtain ⟨s2, hs2⟩ : ∃ s2 : Nat, nzC E T.col.length art = s2 := ⟨(nzC E T.col.length art).toNat, by omega⟩; rw [hs2] at hnzd bnz; rw [hs2, Int.toNat_natCast] at hE2d; have hpv2 := pivot_ok (E.wh H1) hGE1.fit hGE1.short hGE1.den hGE1.dens q s2 (by show q < E.bas.length; omega) (by show s2 < E.col.length; omega); have hlg : bget (tabB (E.wh H1)) (q + 10) = some (.rowx ((E.wh H1).hl.getD q default) 211 2 (whs (E.rows.getD q []))) := Xj (by show q < H1.hl.length; omega) (by show q < E.rows.length; omega); refine Qy (Qx fun K hK => ?_); refine Qq J J J (QW J J J J (QJ J J J fT0 J (QX J J J J J lMat J (Qq J J J (Qn 1 (T.rows.length + 1) J J J (by rw [List.length_map]; show H1.hl.length = _; omega) J sMat (by omega) (by omega) J ?_))))); rw [kq]
      refine QX J J J J (Zf (by show _ < H1.hl.length; omega)) lWhs J ?_
      refine Ops.hand (q + 10) (T.col.length + 2) (by exact hlg) (by rw [XV, hrq]) (by omega) (by decide) (fun gb cc hh hcc hccm => ?_); rw [hh] at hlg; rw [hh]; refine Qq J J J (Qk (iadd (by omega) (by omega)) J J J J ?_)
      refine Y1 (T.col.length + 1) J J J (by omega) sWhs (by omega) J ?_
      refine Ops.callRO (q + 10) (u := .int .i64 (s2 : Int)) goIndexFunc_whs (by
        have := IndexFunc_whs ((E.rows.getD q []).take (T.col.length + 1)) 205 (fun x => decide (x ≠ 0)) gostart1 (fun x _ => start1_ok x) (by rw [List.length_take]; omega); rw [← hnzd] at this
        exact this) J (by exact hlg) (fun a ρ w hI => ?_) J J ?_
      · have h1 := hI.readK (i := q + 10) (es := (E.rows.getD q []).map whCs) (T.col.length + 1) (by exact hlg) (by rw [List.length_map, hrq]) (by simp) (by decide) (by omega) (by omega) hbor; rw [← List.map_take] at h1; have h2 : a.eval (.tmp 165) = kh gb 0 (T.col.length + 1) cc := hI.evx J; exact ⟨by rw [h2]; exact h1, hI.evx J, trivial⟩
      refine Qv J J J (Qj (hK _ _ (Qz ?_))); clear hK K; refine Qx (fun K hK => ?_); refine Qq J J J (Qq J J J (Qq J J J (X2 [] gopivot hpv2 J J J hbor J J hfix (fun _ _ => ?_)))); refine Qj (hK _ _ ?_); clear hK K; exact Xv hN () trivial (by exact Qu (by rw [hE2d, hH1]; rfl) ⟨rfl, rfl, rfl, rfl, trivial⟩)
    · rw [if_pos (by omega)] at hE2d
      refine QK ?_
      exact Xv hN () trivial (by exact Qu (by rw [hE2d, hH1]; rfl) ⟨rfl, rfl, rfl, rfl, trivial⟩)
  have hr2 := hRf.row; rw [lE2'.1, lE2'.2.2, lE1, lE3] at hr2; exact start_tail T E E2 art g1 c1 g3 c3 hlx S w ρ0 hbor hout (by rw [hres]; rfl) hE3d hRo (fun i hi => by rw [hr2 i (by omega)]) (by omega) (by omega) (by omega) (by omega) hc1 hc3 (by omega) (by omega)
end Go.Proofs.YtojkdfilabmafaaGreat
namespace Go.Proofs.YtojkdfilabmafaaGreat
open Go.Own Go.Limbs Go.Det
theorem wrS_wh (T H : Tv) : ∀ i, wrS (T.wh H) i = wrS T i
  | 0 => rfl
  | i + 1 => by simp only [wrS, wrS_wh T H i]; rfl
theorem ptS_wh (T H : Tv) (n : Nat) : ∀ i, ptS (T.wh H) n i = ptS T n i
  | 0 => rfl
  | i + 1 => by simp only [ptS, ptS_wh T H n i]; rfl
theorem duS_wh (T H : Tv) (n m gi : Nat) : ∀ i, duS (T.wh H) n m gi i = duS T n m gi i
  | 0 => rfl
  | i + 1 => by simp only [duS, duS_wh T H n m gi i]; rfl
theorem raS_wh (T H : Tv) (n s : Nat) : ∀ i, raS (T.wh H) n s i = raS T n s i
  | 0 => rfl
  | i + 1 => by simp only [raS, raS_wh T H n s i]; rfl
theorem Fit.wh {T H : Tv} (F : Fit T) (h : H.hl.length = T.rows.length) : Fit (T.wh H) := ⟨h, F.row, F.bas, F.few, F.thin⟩
theorem stE2_wh (E H : Tv) (last : Nat) (art : Int) : stE2 (E.wh H) last art = (stE2 E last art).wh H := by
  unfold stE2; show (if fIx E.bas art < 0 then E.wh H else pvt (E.wh H) (fIx E.bas art).toNat (nzC E last art).toNat) = _; split
  · rfl
  · rfl
theorem stE3_wh (E H H1 : Tv) (m last : Nat) (art : Int) : (stE3 (E.wh H) m last art).wh H1 = (stE3 E m last art).wh H1 := by
  unfold stE3; simp only [stE2_wh]; rfl
theorem stRes_wh (T E H H' : Tv) : stRes (T.wh H) (E.wh H') = stRes T E := by
  unfold stRes; rw [show (T.wh H).bas = T.bas from rfl, wrS_wh]; rfl
theorem stOut_wh (T E H H' H1 : Tv) (art : Int) : (stOut (T.wh H) (E.wh H') art).wh H1 = (stOut T E art).wh H1 := by
  unfold stOut; rw [show (T.wh H).bas = T.bas from rfl, wrS_wh, show (T.wh H).col = T.col from rfl, show (E.wh H').at (T.bas.length + 1) (T.col.length + 1) = E.at (T.bas.length + 1) (T.col.length + 1) from rfl]; split
  · rfl
  · split
    · rfl
    · exact stE3_wh E H' H1 _ _ art
theorem stOut_rows (T E H H' : Tv) (art : Int) : (stOut (T.wh H) (E.wh H') art).rows.length = (stOut T E art).rows.length := by
  have := congrArg (fun X : Tv => X.rows.length) (stOut_wh T E H H' T art); exact this
theorem StartRun.wh {T E : Tv} {art : Int} (h : StartRun T art E) (H : Tv) (hl : H.hl.length = T.rows.length) : StartRun (T.wh H) art (E.wh { H with hl := H.hl ++ [default] }) := by
  have e1 : (insT (T.wh H) art) = (insT T art).wh { H with hl := H.hl ++ [default] } := rfl
  have hl1 : ({ H with hl := H.hl ++ [default] } : Tv).hl.length = (insT T art).rows.length := by
    show (H.hl ++ [default]).length = (insP _ _ _ _).length; rw [insP_len]; simp [hl]
  obtain ⟨s, k, hr⟩ := h.run; have lE := hr.lens; rw [Xb] at lE; refine ⟨by rw [show (T.wh H).bas = T.bas from rfl, wrS_wh]; exact h.worst, by rw [e1]; exact h.gd.wh hl1, ⟨s, k, ?_⟩, h.piv, fun h1 => ?_, fun h1 => ?_⟩
  · rw [show (T.wh H).bas = T.bas from rfl, wrS_wh, e1]; exact hr.wh (by rw [Xb]; exact hl1)
  · rw [stE2_wh]
    refine (h.fit2 h1).wh ?_
    rw [(stE2_lens E _ art).1, lE.1]; exact hl1
  · rw [stE2_wh]; exact h.out h1
structure Oc where
  kind : Int
  value : Fr
  point : List Fr
  ray : List Fr
  dual : List Fr
def frz0 : Fr := ⟨false, 0, 0⟩
def ocOf (n m : Nat) (T E F : Tv) (s : Int) : Oc :=
  if stRes T E = false then ⟨3, frz0, [], [], (duS E n m (m + 1) E.col.length).map ofQ⟩
  else if 0 ≤ s then ⟨2, frz0, (ptS F n F.bas.length).map ofQ, (raS F n s.toNat F.bas.length).map ofQ, []⟩
  else ⟨1, ofQ (shq (F.at m F.col.length) F.den), (ptS F n F.bas.length).map ofQ, [], (duS F n m m F.col.length).map ofQ⟩
structure SolRun (n : Nat) (rs : List Rw) (c : List Int) (T E F : Tv) (s : Int) : Prop where
  beg : Beg n rs c T
  start : 0 ≤ wrS T rs.length → StartRun T ((n + rs.length : Nat) : Int) E
  eg : stRes T E = false → Gd E ∧ E.rows.length = rs.length + 2 ∧ ∀ i, 0 ≤ E.col.getD i 0
  run : stRes T E = true → ∃ k, RunOk rs.length F s k (stOut T E ((n + rs.length : Nat) : Int))
  fr : stRes T E = true → F.rows.length = rs.length + 1 ∧ (∀ i, 0 ≤ F.col.getD i 0) ∧ (∀ i, 0 ≤ F.bas.getD i 0) ∧ s < F.col.length ∧ -1 ≤ s
def ptl (n : Nat) (X : Nat → Int) (D : Int) : List Fr := (List.range n).map fun v => ofQ (shq (X v) D)
theorem list_range {α : Type} {l : List α} {n : Nat} {f : Nat → α} {z : α} (hl : l.length = n) (h : ∀ v, v < n → l.getD v z = f v) : l = (List.range n).map f := by
  subst hl; rw [← Yy l z]; rw [List.length_map, List.length_range]
  exact List.map_congr_left fun v hv => h v (by simpa using hv)
def Kt (m : Nat) : Nat := (m + 2) * (4503599627370496 * (fact (m + 2) * 1048576 ^ (m + 2)))
inductive Sol (n : Nat) (rs : List Rw) (c : List Int) : Oc → Prop
  | opt (D : Int) (X Y : Nat → Int) (val : Int) (hX : Feas n rs D X) (hv : sm (fun j => c.getD j 0 * X j) n = val) (hY : Dual n rs c D Y) (hw : sm (fun i => cb rs i * Y i) rs.length = val)
      (b1 : D.natAbs ≤ Kt rs.length) (b2 : ∀ v, v < n → (X v).natAbs ≤ Kt rs.length) (b3 : ∀ i, i < rs.length → (Y i).natAbs ≤ Kt rs.length) (b4 : val.natAbs ≤ Kt rs.length) : Sol n rs c ⟨1, ofQ (shq val D), ptl n X D, [], ptl rs.length Y D⟩
  | unb (D : Int) (X Z : Nat → Int) (hX : Feas n rs D X) (hZ : Ray n rs c D Z)
      (b1 : D.natAbs ≤ Kt rs.length) (b2 : ∀ v, v < n → (X v).natAbs ≤ Kt rs.length) (b3 : ∀ v, v < n → (Z v).natAbs ≤ Kt rs.length) : Sol n rs c ⟨2, frz0, ptl n X D, ptl n Z D, []⟩
  | emp (D : Int) (Y : Nat → Int) (hY : Refu n rs D Y) (b1 : D.natAbs ≤ Kt rs.length) (b3 : ∀ i, i < rs.length → (Y i).natAbs ≤ Kt rs.length) : Sol n rs c ⟨3, frz0, [], [], ptl rs.length Y D⟩
section
variable {n : Nat} {rs : List Rw} {c : List Int} {W : Nat} {T : Tv} {bs : List Nat}
theorem dT_Kt (h : LpOk n rs c) {i : Nat} {x : Vec} (hl : bs.length = rs.length + 2) (hi : i < rs.length + 2) (hx2 : x = rhsQ rs ∨ ∃ v, x = colA n rs c v) : (dT (colA n rs c) bs i x).natAbs ≤ Kt rs.length := by
  have dtb : ∀ l : List Vec, l.length = rs.length + 2 → (∀ x ∈ l, ∀ i, (x i).natAbs ≤ 1048576) → (dt l).natAbs ≤ fact (rs.length + 2) * 1048576 ^ (rs.length + 2) := fun l hl hA => by
    have h1 := dt_bd l hA
    rwa [hl] at h1
  unfold Kt; rcases hx2 with rfl | ⟨v, rfl⟩
  · have e : rhsQ rs = comb (rhsQ rs) Go.Det.unit (rs.length + 2) := by
      funext j
      unfold comb; by_cases hj : j < rs.length + 2
      · rw [Yj hj fun k _ hk => by simp [Go.Det.unit, Ne.symm hk]]; simp [Go.Det.unit]
      · rw [rhsQ_V j (by omega), Z6 fun k hk => by rw [show Go.Det.unit k j = 0 from if_neg (by omega), Int.mul_zero]]
    have e2 : dT (colA n rs c) bs i (rhsQ rs) = sm (fun k => rhsQ rs k * dt ((cols (colA n rs c) bs).set i (Go.Det.unit k))) (rs.length + 2) := by
      unfold dT
      conv => lhs; rw [e]
      exact Yv (by rw [Zj]; omega) _ _ _
    rw [e2]
    refine sm_natAbs fun k _ => ?_
    rw [Int.natAbs_mul]
    refine Nat.mul_le_mul ?_ (dtb _ (by rw [List.length_set, Zj]; exact hl) fun x hx i => ?_)
    · unfold rhsQ; split
      · rename_i h2; exact h.bb _ (rs_mem h2)
      · decide
    · rcases mem_set_or hx with h3 | h3
      · exact cols_bd h h3 i
      · rw [h3]; unfold Go.Det.unit; split <;> decide
  · refine Nat.le_trans (dtb _ (by rw [List.length_set, Zj]; exact hl) fun x hx i => ?_) ?_
    · rcases mem_set_or hx with h3 | h3
      · exact cols_bd h h3 i
      · rw [h3]; exact colA_bd h v i
    · exact Nat.le_trans (Nat.le_mul_of_pos_left _ (by decide)) (Nat.le_mul_of_pos_left _ (by omega))
theorem sgn_le1 (d : Int) : d.sign.natAbs ≤ 1 := by rw [Int.natAbs_sign]; split <;> omega
theorem tt_Kt (h : LpOk n rs c) {i : Nat} {x : Vec} (hl : bs.length = rs.length + 2) (hi : i < rs.length + 2) (hx2 : x = rhsQ rs ∨ ∃ v, x = colA n rs c v) : (tt (colA n rs c) bs i x).natAbs ≤ Kt rs.length := by
  unfold tt; rw [Int.natAbs_mul]; have h1 := Nat.mul_le_mul (sgn_le1 (dD (colA n rs c) bs)) (dT_Kt h hl hi hx2); omega
theorem den_Kt (h : LpOk n rs c) (hP : Ph n rs c W T bs) : (Go.Det.den (colA n rs c) bs).natAbs ≤ Kt rs.length := by
  have := tt_Kt h (i := rs.length) hP.bas.len (by omega) (.inr ⟨bs.getD rs.length 0, rfl⟩)
  rwa [tt_own hP.bas.len (by omega)] at this
theorem vx_Kt (h : LpOk n rs c) (hP : Ph n rs c W T bs) {x : Vec} (hx2 : x = rhsQ rs ∨ ∃ v, x = colA n rs c v) (v : Nat) : (vx n rs c bs x v).natAbs ≤ Kt rs.length := by
  by_cases hb : ∃ k, k < rs.length ∧ bs.getD k 0 = v
  · obtain ⟨k, hk, rfl⟩ := hb; rw [vx_row hP hk]; exact tt_Kt h hP.bas.len (by omega) hx2
  · rw [vx_out fun k hk e => hb ⟨k, hk, e⟩]; exact Nat.zero_le _
theorem lp_sol (hL : LpOk n rs c) : ∃ T E F s, SolRun n rs c T E F s ∧ Sol n rs c (ocOf n rs.length T E F s) := by
  have hS := lp_sys hL
  let T : Tv := ⟨.slice none 0 0, .slice none 0 0, .slice none 0 0, List.replicate (rs.length + 1) default, (rs.map fun r => lnOf n r.cs r.b) ++ [lnOf n (c.map fun x => -x) 0], rng n rs.length, rng 0 n, 1⟩
  have hB : Beg n rs c T := ⟨rfl, rfl, rfl, rfl, by show (List.replicate _ _).length = _; simp [T]⟩
  have hbl : T.bas.length = rs.length := by rw [hB.bas, XK]
  have hcl : T.col.length = n := by rw [hB.col, XK]
  obtain ⟨E, hst, hE⟩ := hB.start hL; generalize T = T at *
  have second : ∀ P bs, Ph n rs c (n + rs.length) P bs → P.rows.length = rs.length + 1 → P.col.length = n → stOut T E ((n + rs.length : Nat) : Int) = P → stRes T E = true →
      ∃ F s, SolRun n rs c T E F s ∧ Sol n rs c (ocOf n rs.length T E F s) := by
    intro P bs hP hPr hPc hout hres; obtain ⟨k, F, s, bf, hR, hG, hEn, hr, hj⟩ := hP.good.ends hS (g := rs.length) (Nat.le_refl _) (by rw [hPr]; omega) (hP.small (Nat.le_refl _)); have hF : Ph n rs c (n + rs.length) F bf := ⟨hG, by rw [hj _ (Nat.le_refl _)]; exact hP.z, by rw [hj _ (by omega)]; exact hP.w⟩; have hV := hG.view; have hlen := hR.lens; have hcol : ∀ i, 0 ≤ F.col.getD i 0 := hV.colv
    have hbas : ∀ i, 0 ≤ F.bas.getD i 0 := fun i => by
      by_cases h1 : i < rs.length
      · rw [hV.basv i h1]; omega
      · rw [getD_ge (by rw [hV.basl]; omega)]; exact Int.le_refl _
    have hpt : (ptS F n F.bas.length).map ofQ = ptl n (vx n rs c bf (rhsQ rs)) (Go.Det.den (colA n rs c) bf) := by
      rw [list_range (ptS_len F n _) (fun v hv => hF.pt_at hv), List.map_map]; rfl
    have hpo := hF.point; have hdK := den_Kt hL hF
    have hvK := fun v => vx_Kt hL hF (.inl J) v
    rcases hEn with ⟨hs, h1⟩ | ⟨e, hs, he, h1, h2⟩
    · refine ⟨F, s, ⟨hB, hst, fun h => (by rw [hres] at h; cases h), fun _ => ⟨k, by rw [hout]; exact hR⟩, fun _ => ⟨by rw [hr, hPr], hcol, hbas, by rw [hs]; omega, by rw [hs]; decide⟩⟩, ?_⟩; have hdu := hF.dual h1
      have e1 : ocOf n rs.length T E F s = ⟨1, ofQ (shq (F.at rs.length F.col.length) F.den), (ptS F n F.bas.length).map ofQ, [], (duS F n rs.length rs.length F.col.length).map ofQ⟩ := by
        unfold ocOf; rw [if_neg (by rw [hres]; decide), if_neg (by rw [hs]; decide)]
      have hdl : (duS F n rs.length rs.length F.col.length).map ofQ = ptl rs.length (yx n rs c bf rs.length) (Go.Det.den (colA n rs c) bf) := by
        rw [list_range (duS_len F n rs.length rs.length _) (fun i hi => hF.du_at (Nat.le_refl _) (Nat.le_refl _) (by rw [hr, hPr]; omega) hi), List.map_map]; rfl
      rw [e1, hpt, hdl, hV.rhs rs.length (by rw [hr, hPr]; omega), hV.den]; exact .opt _ _ _ _ hpo.1 hpo.2 hdu.1 hdu.2 hdK (fun v _ => hvK v) (fun i _ => tt_Kt hL hF.bas.len (by omega) (.inr ⟨_, rfl⟩)) (tt_Kt hL hF.bas.len (by omega) (.inl J))
    · refine ⟨F, s, ⟨hB, hst, fun h => (by rw [hres] at h; cases h), fun _ => ⟨k, by rw [hout]; exact hR⟩, fun _ => ⟨by rw [hr, hPr], hcol, hbas, by rw [hs]; omega, by rw [hs]; omega⟩⟩, ?_⟩; have hcW := hG.cov.col e he; have hcn := hcol e; obtain ⟨v0, hv0⟩ : ∃ v0 : Nat, F.col.getD e 0 = v0 := ⟨(F.col.getD e 0).toNat, by omega⟩; rw [hv0, Int.toNat_natCast] at h1 h2
      have hnb : ∀ k, k < rs.length → bf.getD k 0 ≠ v0 := fun k hk e2 => by have := hG.cov.dis e k he hk; omega
      have hra := hF.ray (s := v0) (by omega) hnb h1 h2
      have e1 : ocOf n rs.length T E F s = ⟨2, frz0, (ptS F n F.bas.length).map ofQ, (raS F n e F.bas.length).map ofQ, []⟩ := by
        unfold ocOf; rw [if_neg (by rw [hres]; decide), if_pos (by omega), hs, Int.toNat_natCast]
      have hrl : (raS F n e F.bas.length).map ofQ = ptl n (zx n rs c bf v0) (Go.Det.den (colA n rs c) bf) := by
        rw [list_range (raS_len F n e _) (fun v hv => hF.ra_at he hv0 hv), List.map_map]; rfl
      rw [e1, hpt, hrl]; refine .unb _ _ _ hpo.1 hra hdK (fun v _ => hvK v) (fun v _ => ?_); have hb := vx_Kt hL hF (x := colA n rs c v0) (.inr ⟨_, rfl⟩) v; unfold zx; by_cases h3 : v = v0
      · rw [if_pos h3, h3, vx_out hnb, Int.sub_zero]; exact hdK
      · rw [if_neg h3]; omega
  cases hE with
  | keep hw h hc =>
    have hout : stOut T E ((n + rs.length : Nat) : Int) = T := by unfold stOut; rw [hbl, if_pos hw]
    have hres : stRes T E = true := by unfold stRes; rw [hbl, decide_eq_true hw]; rfl
    obtain ⟨F, s, h1, h2⟩ := second T _ h hB.len hc hout hres; exact ⟨T, E, F, s, h1, h2⟩
  | none bs hw h hv ha =>
    have hres : stRes T E = false := by unfold stRes; rw [hbl, hcl, decide_eq_false (by omega), decide_eq_true ha]; rfl
    have hP := h.ph; have hV := hP.good.view
    have e1 : ocOf n rs.length T E E 0 = ⟨3, frz0, [], [], (duS E n rs.length (rs.length + 1) E.col.length).map ofQ⟩ := by
      unfold ocOf; rw [if_pos hres]
    have hdl : (duS E n rs.length (rs.length + 1) E.col.length).map ofQ = ptl rs.length (yx n rs c bs (rs.length + 1)) (Go.Det.den (colA n rs c) bs) := by
      rw [list_range (duS_len E n rs.length (rs.length + 1) _) (fun i hi => hP.du_at (by omega) (by omega) (by rw [h.rows]; omega) hi), List.map_map]; rfl
    refine ⟨T, E, E, 0, ⟨hB, hst, fun _ => ⟨hV.gd hS hP.good.hl hP.good.few hP.good.thin, h.rows, hV.colv⟩, fun h1 => (by rw [hres] at h1; cases h1), fun h1 => (by rw [hres] at h1; cases h1)⟩, ?_⟩; rw [e1, hdl]; exact .emp _ _ (h.refu hv) (den_Kt hL hP) (fun i _ => tt_Kt hL hP.bas.len (by omega) (.inr ⟨_, rfl⟩))
  | some bs hw ha h hc hr =>
    have hout : stOut T E ((n + rs.length : Nat) : Int) = stE3 E rs.length n ((n + rs.length : Nat) : Int) := by unfold stOut; rw [hbl, hcl, if_neg (by omega), if_neg ha]
    have hres : stRes T E = true := by unfold stRes; rw [hbl, hcl, decide_eq_false ha]; simp
    obtain ⟨F, s, h1, h2⟩ := second _ _ h hr hc hout hres; exact ⟨T, E, F, s, h1, h2⟩
theorem sm_mul_r (f : Nat → Int) (c : Int) (n : Nat) : sm (fun k => f k * c) n = sm f n * c := by
  rw [X9 (g := fun k => c * f k) fun k _ => Int.mul_comm _ _, Zs, Int.mul_comm]
theorem comb_swap (rs : List Rw) (X Y : Nat → Int) (n : Nat) : sm (fun j => sm (fun i => ca rs i j * Y i) rs.length * X j) n = sm (fun i => Y i * sm (fun j => ca rs i j * X j) n) rs.length := by
  rw [X9 (g := fun j => sm (fun i => ca rs i j * Y i * X j) rs.length) fun j _ => (sm_mul_r _ _ _).symm]; rw [sm_swap (fun i j => ca rs i j * Y i * X j) rs.length n]
  exact X9 fun i _ => by
    rw [← Zs]
    exact X9 fun j _ => by grind
theorem weak {D D' : Int} {X Y : Nat → Int} (hX : Feas n rs D X) (hY : Dual n rs c D' Y) : D' * sm (fun j => c.getD j 0 * X j) n ≤ D * sm (fun i => cb rs i * Y i) rs.length := by
  have h1 : D' * sm (fun j => c.getD j 0 * X j) n ≤ sm (fun j => sm (fun i => ca rs i j * Y i) rs.length * X j) n := by
    rw [← Zs]
    refine sm_le fun j hj => ?_
    have := Int.mul_le_mul_of_nonneg_right (hY.col j hj) (hX.nn j hj); rw [← Int.mul_assoc]; exact this
  rw [comb_swap] at h1
  refine Int.le_trans h1 ?_
  rw [← Zs]
  refine sm_le fun i hi => ?_
  have := Int.mul_le_mul_of_nonneg_left (hX.row i hi) (hY.nn i hi)
  have e : Y i * (D * cb rs i) = D * (cb rs i * Y i) := by grind
  rw [← e]; exact this
theorem no_refu {D D' : Int} {X Y : Nat → Int} (hX : Feas n rs D X) (hY : Refu n rs D' Y) : False := by
  have h1 : 0 ≤ sm (fun j => sm (fun i => ca rs i j * Y i) rs.length * X j) n := sm_nonneg fun j hj => Int.mul_nonneg (hY.col j hj) (hX.nn j hj)
  rw [comb_swap] at h1
  have h2 : sm (fun i => Y i * sm (fun j => ca rs i j * X j) n) rs.length ≤ D * sm (fun i => cb rs i * Y i) rs.length := by
    rw [← Zs]
    refine sm_le fun i hi => ?_
    have := Int.mul_le_mul_of_nonneg_left (hX.row i hi) (hY.nn i hi)
    have e : Y i * (D * cb rs i) = D * (cb rs i * Y i) := by grind
    rw [← e]; exact this
  have h3 := Int.mul_neg_of_pos_of_neg hX.den hY.neg; omega
theorem no_ray {D D' : Int} {Z Y : Nat → Int} (hZ : Ray n rs c D Z) (hY : Dual n rs c D' Y) : False := by
  have h1 : D' * sm (fun j => c.getD j 0 * Z j) n ≤ sm (fun j => sm (fun i => ca rs i j * Y i) rs.length * Z j) n := by
    rw [← Zs]
    refine sm_le fun j hj => ?_
    have := Int.mul_le_mul_of_nonneg_right (hY.col j hj) (hZ.nn j hj); rw [← Int.mul_assoc]; exact this
  rw [comb_swap] at h1
  have h2 : sm (fun i => Y i * sm (fun j => ca rs i j * Z j) n) rs.length ≤ sm (fun _ => 0) rs.length := sm_le fun i hi => Int.mul_nonpos_of_nonneg_of_nonpos (hY.nn i hi) (hZ.row i hi)
  rw [Z6 (f := fun _ => 0) fun _ _ => rfl] at h2; have h3 := Int.mul_pos hY.den hZ.goal; omega
end
end Go.Proofs.YtojkdfilabmafaaGreat
namespace Go.Proofs.YtojkdfilabmafaaGreat
open Go.Own Go.Limbs
attribute [local irreducible] St Ops Go.Own.Fin Ok
def intV (n : Nat) : Int := if n ≤ 4611686018427387904 then n else 0
def intE (n : Nat) : Int := if n ≤ 4611686018427387904 then 0 else 1
set_option maxHeartbeats 4000000 in
theorem Int_any (n : Nat) (hl : (limbs n).length ≤ 200) : Ok Tryz.prog 213 [natC n] (.fr (tupT [intC (intV n), intC (intE n)])) := by
  by_cases hn : n ≤ 4611686018427387904
  · have := Int_ok n hn
    unfold intV intE
    rw [if_pos hn, if_pos hn]; exact this
  have hv0 : intV n = 0 := if_neg hn
  have he0 : intE n = 1 := if_neg hn
  refine Ok.enter Tryz.func213 rfl _ Tryz.ntmps213 rfl ?_
  intro S w
  (refine Qy (Qx fun K hK => ?_); refine Qv rfl rfl rfl ?_; refine Qv rfl rfl rfl ?_; refine Qj (hK _ _ (Qz (Qy ?_))); clear hK K; refine Qx (fun K hK => ?_); refine Qv rfl rfl rfl ?_; refine Qj (hK _ _ (Qz (Qy (Qy ?_)))); clear hK K; refine Qx (fun K hK => ?_); refine Qq rfl rfl rfl ?_; refine Qh rfl rfl (by with_reducible exact sNat.und) (List.length_map ..) rfl ?_; refine Qk (isub (by omega) (by omega)) rfl rfl rfl rfl ?_; refine Qv rfl rfl rfl ?_; refine Qj (hK _ _ (Qz (Q5 ?_))); clear hK K)
  refine Qs (α := Nat × Int) (fun s => s.1 ≤ (limbs n).length ∧ 0 ≤ s.2 ∧ s.2 ≤ 4611686018427387904 ∧ s.2 * BB ^ s.1 + pre (limbs n) s.1 = n)
    (fun s => [(0, .ct (natC n)), (4, .ct (intC s.2)), (5, .ct (intC ((s.1 : Int) - 1)))]) (fun _ => []) (fun s => s.1) ((limbs n).length, 0) ⟨Nat.le_refl _, Int.le_refl _, by dsimp only; decide, by dsimp only; rw [val_eq_pre]; simp⟩ (by exact Qu rfl ⟨rfl, rfl, rfl, trivial⟩) ?_
  rintro ⟨q, v⟩ ⟨hq, hv, hvm, hvq⟩
  dsimp only at hq hv hvm hvq ⊢
  (refine Qy (Qy (Qx fun K hK => ?_)); refine Qq rfl rfl rfl ?_; refine Qk igeq rfl rfl rfl rfl ?_; refine Qj (hK _ _ (Qz ?_)); clear hK K)
  refine Q2 rfl (fun h => ?_) (fun h => ?_)
  · obtain ⟨i, rfl⟩ : ∃ i, q = i + 1 := ⟨q - 1, by omega⟩
    have e1 : (((i + 1 : Nat) : Int) - 1) = (i : Int) := by omega
    have e2 : (i : Int).toNat = i := Int.toNat_natCast i
    have bx := (XU n).get i
    simp only [BB] at bx
    rw [X5, Int.pow_succ] at hvq
    rw [e1]
    (refine QK (Qz (Qy (Q5 (Qy (Qy (Qx fun K hK => ?_)))))); refine Qq rfl rfl rfl ?_; refine Qq rfl rfl rfl ?_; refine Qq rfl rfl rfl ?_; refine Xz rfl rfl rfl (by with_reducible exact sNat) (by omega) (Xs (by omega) (by omega)) rfl ?_; refine X3 rfl rfl rfl (by with_reducible exact lInt) rfl ?_)
    rw [e2]
    (refine Qk (isub (by omega) (by omega)) rfl rfl rfl rfl ?_)
    refine Qk ishr30 rfl rfl rfl rfl ?_
    (refine Qk igtr rfl rfl rfl rfl ?_; refine Qj (hK _ _ (Qz ?_)); clear hK K)
    refine Q2 rfl (fun h2 => ?_) (fun h2 => ?_)
    · (refine Qy (Qx fun K hK => ?_); refine Qv rfl rfl rfl ?_; refine Qv rfl rfl rfl ?_; refine Qj (hK _ _ (Qz (Q0 (QY (Q9 (QY (QY (Q9 (QY ?_))))))))); clear hK K)
      refine QU [_, _] rfl (QQ rfl (QQ rfl QZ)) (by rw [hv0, he0]; rfl) rfl
    have key : v * 1073741824 + (limbs n).getD i 0 ≤ 4611686018427387904 := by omega
    clear h2
    (refine QK (Qz (Qx fun K hK => ?_)); refine Qq rfl rfl rfl ?_)
    refine Qk (ishl30 (by omega) (by omega)) rfl rfl rfl rfl ?_
    (refine Qq rfl rfl rfl ?_; refine Qq rfl rfl rfl ?_; refine Xz rfl rfl rfl (by with_reducible exact sNat) (by omega) (Xs (by omega) (by omega)) rfl ?_; refine X3 rfl rfl rfl (by with_reducible exact lInt) rfl ?_)
    rw [e2]
    refine Qk (ior30 (by omega) (by omega) (by omega) (by omega)) rfl rfl rfl rfl ?_
    (refine Qv rfl rfl rfl ?_; refine Qj (hK _ _ (Qz ?_)); clear hK K; refine Qx (fun K hK => ?_); refine Qq rfl rfl rfl ?_; refine Qk (isub (by omega) (by omega)) rfl rfl rfl rfl ?_; refine Qv rfl rfl rfl ?_; refine Qj (hK _ _ (Q7 ?_)); clear hK K)
    refine Qb (i, v * 1073741824 + (limbs n).getD i 0) (by dsimp only; omega) ⟨by dsimp only; omega, by dsimp only; omega, by dsimp only; omega, ?_⟩ (by exact Qu rfl ⟨rfl, rfl, rfl, trivial⟩)
    dsimp only
    rw [← hvq]; simp only [BB]; grind
  · have hq0 : q = 0 := by omega
    subst hq0
    have e : v = n := by rw [Zc] at hvq; simpa using hvq
    exact absurd hvm (by omega)
set_option maxHeartbeats 2000000 in
theorem round_any (f : Fr) (up : Bool) (h1 : (limbs f.num).length ≤ 100) (h2 : 0 < f.den) (h3 : (limbs f.den).length ≤ 100) : Ok Tryz.prog 212 [fracC f, boolC up] (.fr (tupT [natC (rnd f.num f.den up), intC 0])) := by
  have hl : (limbs (f.num / f.den)).length ≤ 100 := Nat.le_trans (Xp (Nat.div_le_self ..)) h1
  refine Ok.enter Tryz.func212 rfl _ Tryz.ntmps212 rfl ?_
  intro S w
  (refine Qy (Qx fun K hK => ?_); refine XX 0 rfl rfl rfl rfl rfl rfl rfl ?_; refine Qv rfl rfl rfl ?_; refine Qv rfl rfl rfl ?_; refine Qj (hK _ _ (Qz (Qy ?_))); clear hK K; refine Qx (fun K hK => ?_); refine QJ rfl rfl rfl (by with_reducible exact fF1) rfl ?_; refine QX rfl rfl rfl rfl rfl (by with_reducible exact lNat) rfl ?_; refine QJ rfl rfl rfl (by with_reducible exact fF2) rfl ?_; refine QX rfl rfl rfl rfl rfl (by with_reducible exact lNat) rfl ?_)
  refine QV goDivMod (DivMod_ok f.num f.den h2 (by omega) (by omega)) rfl rfl rfl rfl ?_
  (refine Qq rfl rfl rfl ?_; refine Q4 rfl rfl rfl rfl ?_; refine Q4 rfl rfl rfl rfl ?_; refine Q4 rfl rfl rfl rfl ?_; refine Qv rfl rfl rfl ?_; refine Qv rfl rfl rfl ?_; refine Qv rfl rfl rfl ?_; refine Qj (hK _ _ (Qz (Qy (Qy ?_)))); clear hK K; refine Qx (fun K hK => ?_); refine Qq rfl rfl rfl ?_; refine Qk ieql rfl rfl rfl rfl ?_; refine Qq rfl rfl rfl ?_; refine Qq rfl rfl rfl ?_; refine Q3 rfl rfl rfl rfl ?_; refine Qq rfl rfl rfl ?_)
  refine Xc 23 rfl (fun hu => ?_) (fun hu => ?_)
  · (refine Qq rfl rfl rfl ?_; refine Qh rfl rfl (by with_reducible exact sNat.und) (List.length_map ..) rfl ?_; refine Qk igtr rfl rfl rfl rfl ?_; refine Q3 rfl rfl rfl rfl ?_; refine Qj (hK _ _ (Qz ?_)); clear hK K)
    refine Q2 rfl (fun h => ?_) (fun h => ?_)
    · have hr : f.num % f.den ≠ 0 := limbs_len_pos.mp (by omega)
      (refine Qx (fun K hK => ?_); refine Qq rfl rfl rfl ?_)
      refine Xn rfl rfl sNat rfl rfl rfl ?_
      refine QV goAdd (Add_list (limbs (f.num / f.den)) [1] (by omega) (by simp) (XU _) (OKL.cons (by decide) OKL.nil)) rfl rfl rfl rfl ?_
      rw [Xr, show val [1] = 1 by decide, show (((f.num / f.den : Nat) : Int) + 1).toNat = f.num / f.den + 1 by generalize f.num / f.den = z; omega]
      (refine Qq rfl rfl rfl ?_; refine Q4 rfl rfl rfl rfl ?_; refine Q4 rfl rfl rfl rfl ?_; refine Qv rfl rfl rfl ?_; refine Qv rfl rfl rfl ?_; refine Qj (hK _ _ (Qz (Qy ?_))); clear hK K; refine Qx (fun K hK => ?_); refine Qq rfl rfl rfl ?_; refine Qq rfl rfl rfl ?_; refine Qv rfl rfl rfl ?_; refine Qv rfl rfl rfl ?_; refine Qj (hK _ _ (Qz (Q0 ?_))); clear hK K)
      refine QU [_, _] rfl (QQ rfl (QQ rfl QZ)) (by unfold rnd; rw [if_pos ⟨hu, hr⟩]; rfl) rfl
    · have hr : ¬ (f.num % f.den ≠ 0) := fun h' => h (by have := limbs_len_pos.mpr h'; omega)
      (refine QK (Qz (Qy (Qx fun K hK => ?_))); refine Qq rfl rfl rfl ?_; refine Qq rfl rfl rfl ?_; refine Qv rfl rfl rfl ?_; refine Qv rfl rfl rfl ?_; refine Qj (hK _ _ (Qz (Q0 ?_))); clear hK K)
      refine QU [_, _] rfl (QQ rfl (QQ rfl QZ)) (by unfold rnd; rw [if_neg (fun h' => hr h'.2)]; rfl) rfl
  · (refine Qw rfl rfl rfl ?_; refine Qw rfl rfl rfl ?_; refine Qw rfl rfl rfl ?_; refine Q6 rfl rfl rfl rfl ?_; refine Qj (hK _ _ (Qz (Xu rfl (QK (Qz (Qy ?_)))))); clear hK K; refine Qx (fun K hK => ?_); refine Qq rfl rfl rfl ?_; refine Qq rfl rfl rfl ?_; refine Qv rfl rfl rfl ?_; refine Qv rfl rfl rfl ?_; refine Qj (hK _ _ (Qz (Q0 ?_))); clear hK K)
    refine QU [_, _] rfl (QQ rfl (QQ rfl QZ)) (by unfold rnd; rw [if_neg (fun h' => by rw [hu] at h'; cases h'.1)]; rfl) rfl
theorem rnd_len {f : Fr} (up : Bool) (h1 : (limbs f.num).length ≤ 100) : (limbs (rnd f.num f.den up)).length ≤ 101 := by
  have hl : rnd f.num f.den up ≤ f.num + 1 := by
    have := Nat.div_le_self f.num f.den
    unfold rnd; split <;> omega
  have h2 : f.num < 1073741824 ^ 100 := Xg h1
  have h3 : 1073741824 ^ 100 + 1 ≤ 1073741824 ^ 101 := by decide
  exact Xl (by omega)
def flV (f : Fr) : Int := if rnd f.num f.den f.neg ≤ 4611686018427387904 then sg f.neg (rnd f.num f.den f.neg) else 0
def flE (f : Fr) : Int := intE (rnd f.num f.den f.neg)
set_option maxHeartbeats 2000000 in
theorem FFloor_any (f : Fr) (h1 : (limbs f.num).length ≤ 100) (h2 : 0 < f.den) (h3 : (limbs f.den).length ≤ 100) : Ok Tryz.prog 82 [fracC f] (.fr (tupT [intC (flV f), intC (flE f)])) := by
  have hI := Int_any (rnd f.num f.den f.neg) (by have := rnd_len (f := f) f.neg h1; omega)
  have hR := round_any f f.neg h1 h2 h3
  have hv : flV f = if rnd f.num f.den f.neg ≤ 4611686018427387904 then sg f.neg (rnd f.num f.den f.neg) else 0 := rfl
  have he : flE f = intE (rnd f.num f.den f.neg) := rfl
  have hW : Ok Tryz.prog 145 [fracC f, boolC false] (.fr (tupT [intC (flV f), intC (flE f)])) := by
    generalize rnd f.num f.den f.neg = r at *
    unfold intV intE at hI
    refine Ok.enter Tryz.func145 rfl _ Tryz.ntmps145 rfl ?_
    intro S w
    (refine Qy (Qx fun K hK => ?_); refine XX 0 rfl rfl rfl rfl rfl rfl rfl ?_; refine Qv rfl rfl rfl ?_; refine Qv rfl rfl rfl ?_; refine Qj (hK _ _ (Qz (Qy ?_))); clear hK K; refine Qx (fun K hK => ?_); refine Qe (n := 3) rfl rfl rfl rfl rfl (by with_reducible exact lFrac) rfl ?_; refine Qq rfl rfl rfl ?_; refine QJ rfl rfl rfl (by with_reducible exact fF0) rfl ?_; refine QX rfl rfl rfl rfl rfl (by with_reducible exact lBool) rfl ?_)
    refine Ops.bne rfl rfl rfl uBool rfl ?_
    rw [dne, Bool.false_bne]
    skip
    refine QV goround hR rfl rfl rfl rfl ?_
    (refine Qq rfl rfl rfl ?_; refine Q4 rfl rfl rfl rfl ?_; refine Q4 rfl rfl rfl rfl ?_; refine Qv rfl rfl rfl ?_; refine Qv rfl rfl rfl ?_; refine Qj (hK _ _ (Qz (Qy (Qy ?_)))); clear hK K; refine Qx (fun K hK => ?_); refine Qq rfl rfl rfl ?_; refine Qk ineq rfl rfl rfl rfl ?_; refine Qj (hK _ _ (Qz (Xu rfl (QK (Qz (Qy ?_)))))); clear hK K; refine Qx (fun K hK => ?_); refine Qq rfl rfl rfl ?_)
    by_cases hr : r ≤ 4611686018427387904
    · rw [if_pos hr, if_pos hr] at hI
      rw [if_pos hr] at hv
      refine QV goInt hI rfl rfl rfl rfl ?_
      (refine Qq rfl rfl rfl ?_; refine Q4 rfl rfl rfl rfl ?_; refine Q4 rfl rfl rfl rfl ?_; refine Qv rfl rfl rfl ?_; refine Qv rfl rfl rfl ?_; refine Qj (hK _ _ (Qz (Qy (Qy ?_)))); clear hK K; refine Qx (fun K hK => ?_); refine Qq rfl rfl rfl ?_; refine Qk ineq rfl rfl rfl rfl ?_; refine Qj (hK _ _ (Qz (Xu rfl (QK (Qz (Qy (Qy ?_))))))); clear hK K; refine Qx (fun K hK => ?_); refine QJ rfl rfl rfl (by with_reducible exact fF0) rfl ?_; refine QX rfl rfl rfl rfl rfl (by with_reducible exact lBool) rfl ?_; refine Qj (hK _ _ (Qz ?_)); clear hK K)
      refine X4 rfl (fun hn => ?_) (fun hn => ?_)
      · (refine Qx (fun K hK => ?_); refine Qq rfl rfl rfl ?_)
        refine Ops.ineg rfl rfl (by omega) (by omega) rfl ?_
        (refine Qv rfl rfl rfl ?_; refine Qj (hK _ _ (Qz (Qy ?_))); clear hK K; refine Qx (fun K hK => ?_); refine Qq rfl rfl rfl ?_; refine Qv rfl rfl rfl ?_; refine Qv rfl rfl rfl ?_; refine Qj (hK _ _ (Qz (Q0 ?_))); clear hK K)
        refine QU [_, _] rfl (QQ rfl (QQ rfl QZ)) (by rw [hv, he]; unfold intE sg; rw [hn, if_pos hr]; rfl) rfl
      · (refine QK (Qz (Qy (Qx fun K hK => ?_))); refine Qq rfl rfl rfl ?_; refine Qv rfl rfl rfl ?_; refine Qv rfl rfl rfl ?_; refine Qj (hK _ _ (Qz (Q0 ?_))); clear hK K)
        refine QU [_, _] rfl (QQ rfl (QQ rfl QZ)) (by rw [hv, he]; unfold intE sg; rw [hn, if_pos hr]; rfl) rfl
    · rw [if_neg hr, if_neg hr] at hI
      rw [if_neg hr] at hv
      refine QV goInt hI rfl rfl rfl rfl ?_
      (refine Qq rfl rfl rfl ?_; refine Q4 rfl rfl rfl rfl ?_; refine Q4 rfl rfl rfl rfl ?_; refine Qv rfl rfl rfl ?_; refine Qv rfl rfl rfl ?_; refine Qj (hK _ _ (Qz (Qy (Qy ?_)))); clear hK K; refine Qx (fun K hK => ?_); refine Qq rfl rfl rfl ?_; refine Qk ineq rfl rfl rfl rfl ?_; refine Qj (hK _ _ (Qz (XZ rfl (Qy ?_)))); clear hK K; refine Qx (fun K hK => ?_); refine Qv rfl rfl rfl ?_; refine Qv rfl rfl rfl ?_; refine Qj (hK _ _ (Qz (Q0 (QY ?_)))); clear hK K)
      refine QU [_, _] rfl (QQ rfl (QQ rfl QZ)) (by rw [hv, he]; unfold intE; rw [if_neg hr]; rfl) rfl
  refine Ok.enter Tryz.func82 rfl _ Tryz.ntmps82 rfl ?_
  intro S w
  (refine Qy (Qx fun K hK => ?_); refine XX 0 rfl rfl rfl rfl rfl rfl rfl ?_; refine Qv rfl rfl rfl ?_; refine Qv rfl rfl rfl ?_; refine Qj (hK _ _ (Qz (Qy ?_))); clear hK K; refine Qx (fun K hK => ?_); refine Qe (n := 3) rfl rfl rfl rfl rfl (by with_reducible exact lFrac) rfl ?_)
  refine QV goFwhole hW rfl rfl rfl rfl ?_
  (refine Q4 rfl rfl rfl rfl ?_; refine Q4 rfl rfl rfl rfl ?_; refine Qv rfl rfl rfl ?_; refine Qv rfl rfl rfl ?_; refine Qj (hK _ _ (Qz (Q0 ?_))); clear hK K)
  refine QU [_, _] rfl (QQ rfl (QQ rfl QZ)) rfl rfl
def badR (n : Int) (r : Rw) : Bool := !okCoeffs n r.cs || decide (r.b < -4503599627370496) || decide (4503599627370496 < r.b)
set_option maxHeartbeats 2000000 in
theorem LValid1_ok (n : Int) (r : Rw) (hl : r.cs.length < 4611686018427387904) : Ok Tryz.prog 194 ([rowC r] ++ [.fr (ptrT [intC n])]) (boolC (badR n r)) := by
  refine Ok.enter Tryz.func194 J _ Tryz.ntmps194 J ?_
  intro S w; refine Qy (Qx fun K hK => ?_); refine XX 0 J J J J J J J (Qv J J J (Qj (hK _ _ (Qz (Qy ?_))))); clear hK K; refine Qx (fun K hK => ?_); refine X3 J J J lInt J (QJ J J J fR0 J (QX J J J J J lInts J (QV govalidCoeffs (validCoeffs_ok n r.cs hl) J J J J (Xx J J J (Qq J J J (Xc 9 J (fun h => ?_) (fun h => ?_)))))))
  · refine Qw J J J (Qw J J J (Qw J J J (Q3 J J J J (Qq J J J (Qw J J J (Qw J J J (Qw J J J (Q3 J J J J (Qv J J J (Qj (hK _ _ (Qz (Q0 ?_))))))))))))); clear hK K; refine QU [_] rfl (QQ J QZ) (by unfold badR; rw [h]; rfl) J
  · refine QJ J J J fR1 J (QX J J J J J lInt J (Qk ilss J J J J (Q6 J J J J (Qq J J J (Qf 14 J (fun h2 => ?_) (fun h2 => ?_))))))
    · refine Qw J J J (Qw J J J (Qw J J J (Q3 J J J J (Qv J J J (Qj (hK _ _ (Qz (Q0 ?_)))))))); clear hK K; refine QU [_] rfl (QQ J QZ) (by unfold badR; rw [h, decide_eq_true h2]; rfl) J
    · refine QJ J J J fR1 J (QX J J J J J lInt J (Qk igtr J J J J (Q6 J J J J (Qv J J J (Qj (hK _ _ (Qz (Q0 ?_)))))))); clear hK K; refine QU [_] rfl (QQ J QZ) (by unfold badR; rw [h, decide_eq_false h2]; rfl) J
theorem goLValid1 : InGo Tryz.prog 194 := InGo.of Tryz.func194 (by kernel_rfl) (by kernel_rfl)
def validR (n : Int) (rs : List Rw) : Bool := decide (0 ≤ n) && decide (n ≤ 16) && decide (rs.length ≤ 64) && !rs.any (badR n)
set_option maxHeartbeats 2000000 in
theorem LValid_ok (n : Int) (rs : List Rw) (hl : rs.length < 4611686018427387904) (hr : ∀ r ∈ rs, r.cs.length < 4611686018427387904) : Ok Tryz.prog 136 [intC n, rowsC rs] (boolC (validR n rs)) := by
  refine Ok.enter Tryz.func136 J _ Tryz.ntmps136 J ?_
  intro S w; refine Qy (Qx fun K hK => ?_); refine Ops.box1 0 J J J J J J J (Qv J J J (Qj (hK _ _ (Qz (Qy (Qy ?_)))))); clear hK K; refine Qx (fun K hK => ?_); refine Ops.ld1O J J J J J lInt J (Qk ilss J J J J (Qq J J J (Qf 7 J (fun h => ?_) (fun h => ?_))))
  · refine Qw J J J (Qw J J J (Q3 J J J J (Qq J J J (Qw J J J (Qw J J J (Qw J J J (Q3 J J J J (Qj (hK _ _ (Qz (XZ J (Qy ?_)))))))))))); clear hK K; refine Qx (fun K hK => ?_); refine Qv J J J (Qj (hK _ _ (Qz (Q0 (QY ?_))))); clear hK K; refine QU [_] rfl (QQ J QZ) (by unfold validR; rw [decide_eq_false (show ¬ 0 ≤ n by omega)]; rfl) J
  · refine Ops.ld1O J J J J J lInt J (Qk igtr J J J J (Q6 J J J J (Qq J J J (Qf 11 J (fun h2 => ?_) (fun h2 => ?_)))))
    · refine Qw J J J (Qw J J J (Qw J J J (Q3 J J J J (Qj (hK _ _ (Qz (XZ J (Qy ?_)))))))); clear hK K; refine Qx (fun K hK => ?_); refine Qv J J J (Qj (hK _ _ (Qz (Q0 (QY ?_))))); clear hK K; refine QU [_] rfl (QQ J QZ) (by unfold validR; rw [decide_eq_false (show ¬ n ≤ 16 by omega), Bool.and_false]; rfl) J
    · refine Qq J J J (Qh J J sRows.und (List.length_map ..) J (Qk igtr J J J J (Q6 J J J J (Qj (hK _ _ (Qz ?_)))))); clear hK K; refine Q2 J (fun h3 => ?_) (fun h3 => ?_)
      · refine Qy (Qx fun K hK => ?_); refine Qv J J J (Qj (hK _ _ (Qz (Q0 (QY ?_))))); clear hK K; refine QU [_] rfl (QQ J QZ) (by unfold validR; rw [decide_eq_false (show ¬ rs.length ≤ 64 by omega), Bool.and_false]; rfl) J
      · refine Yk 0 _ J J noBor_sub (QK (Qz (Qy (Qx fun K hK => ?_)))); refine Qq J J J (Ops.makeFunc J J J (QV goContainsFunc_rows (ContainsFunc_rows rs _ _ (badR n) goLValid1 (fun r hr' => LValid1_ok n r (hr r hr')) hl) J J J J ?_)); refine Xx J J J (Qv J J J (Qj (hK _ _ (Qz (Q0 ?_))))); clear hK K; refine QU [_] rfl (QQ J QZ) (by unfold validR; rw [decide_eq_true (show 0 ≤ n by omega), decide_eq_true (show n ≤ 16 by omega), decide_eq_true (show rs.length ≤ 64 by omega)]; rfl) J
theorem goLValid : InGo Tryz.prog 136 := InGo.of Tryz.func136 (by kernel_rfl) (by kernel_rfl)
def dotN (c x : List Int) : Nat → Int
  | 0 => 0
  | k + 1 => dotN c x k + c.getD k 0 * x.getD k 0
def dot (c x : List Int) : Int := dotN c x (min c.length x.length)
theorem validR_spec {n : Int} {rs : List Rw} (h : validR n rs = true) : 0 ≤ n ∧ n ≤ 16 ∧ rs.length ≤ 64 ∧ ∀ r ∈ rs, (r.cs.length : Int) ≤ n ∧ (∀ y ∈ r.cs, y.natAbs ≤ 1048576) ∧ r.b.natAbs ≤ 4503599627370496 := by
  unfold validR at h; simp only [Bool.and_eq_true, decide_eq_true_eq, Bool.not_eq_true'] at h; obtain ⟨⟨⟨h1, h2⟩, h3⟩, h4⟩ := h; refine ⟨h1, h2, h3, fun r hr => ?_⟩; rw [List.any_eq_false] at h4
  have h5 : badR n r = false := by simpa using h4 r hr
  unfold badR okCoeffs at h5; simp only [Bool.or_eq_false_iff, Bool.not_eq_false', Bool.and_eq_true, decide_eq_true_eq, decide_eq_false_iff_not, Bool.not_eq_true', List.any_eq_false] at h5; obtain ⟨⟨⟨h6, h7⟩, h8⟩, h9⟩ := h5; refine ⟨h6, fun y hy => ?_, by omega⟩
  have h10 : badC y = false := by simpa using h7 y hy
  unfold badC at h10; simp only [Bool.or_eq_false_iff, decide_eq_false_iff_not] at h10; omega
end Go.Proofs.YtojkdfilabmafaaGreat
namespace Go.Proofs.YtojkdfilabmafaaGreat
open Go.Own Go.Limbs Go.Det
attribute [local irreducible] St Ops Go.Own.Fin Ok OkM
theorem zvOut : (Tryz.prog.info? 100).map (·.zero) = some (some (.agg #[.int .i64 0, .bool false, .slice none 0 0, .slice none 0 0, .slice none 0 0, .slice none 0 0, .slice none 0 0])) := by kernel_rfl
theorem lOut : LdN Tryz.prog 100 7 := LdN.of _ Tryz.underlying100 rfl (by kernel_rfl)
theorem szOut : (Tryz.prog.info? 100).map (·.size) = some 7 := by kernel_rfl
theorem bOut : bInfo Tryz.prog 100 = some (.agg #[.int .i64 0, .bool false, .slice none 0 0, .slice none 0 0, .slice none 0 0, .slice none 0 0, .slice none 0 0], [(0, some 1), (1, some 3), (4, some 1), (5, some 1), (6, some 1)]) := by kernel_rfl
abbrev ocCs (O : Oc) : List CT := [intC O.kind, boolC O.value.neg, natC O.value.num, natC O.value.den, fracsC O.point, fracsC O.ray, fracsC O.dual]
abbrev ocC (O : Oc) : CT := .fr (aggT (ocCs O))
def oc0 : Oc := ⟨0, frz0, [], [], []⟩
theorem w_nat0 : ∀ S w v, (CT.ex (.slice none 0 0)).p S w v → (natC 0).p S w v := by rw [natC_zero]; exact Y3
theorem goSolve : InGo Tryz.prog 81 := InGo.of Tryz.func81 (by kernel_rfl) (by kernel_rfl)
theorem stOut_none {T E : Tv} {art : Int} (h : stRes T E = false) : stOut T E art = E := by
  unfold stRes at h; rw [Bool.or_eq_false_iff] at h; have h1 := of_decide_eq_false h.1
  have h2 : E.at (T.bas.length + 1) (T.col.length + 1) < 0 := by
    have := h.2
    simpa using this
  unfold stOut; rw [if_neg h1, if_pos h2]
theorem lp_rw {n : Nat} {rs : List Rw} {c : List Int} (h : LpOk n rs c) : (∀ r ∈ rs, OkRw n r) ∧ Okc c := by
  have big : ∀ z : Int, z.natAbs ≤ 4503599627370496 → -1152921504606846976 ≤ z ∧ z ≤ 1152921504606846976 := fun z hz => by omega
  have ok : ∀ xs : List Int, (∀ i, (xs.getD i 0).natAbs ≤ 1048576) → Okc xs := fun xs hx x hm => by
    obtain ⟨i, hi, rfl⟩ := List.getElem_of_mem hm; have := hx i; rw [List.getD_eq_getElem?_getD, List.getElem?_eq_getElem hi] at this; exact big _ (Nat.le_trans this (by decide))
  exact ⟨fun r hr => ⟨h.rl r hr, ok _ (h.rb r hr), (big _ (h.bb r hr)).1, (big _ (h.bb r hr)).2⟩, ok _ h.cb⟩
theorem wh_of {T T0 : Tv} (h1 : T.rows = T0.rows) (h2 : T.bas = T0.bas) (h3 : T.col = T0.col) (h4 : T.den = T0.den) : T = T0.wh T := by
  cases T; cases T0; simp only at h1 h2 h3 h4; subst h1; subst h2; subst h3; subst h4; rfl
def kpB (j : Nat) : Bool := Nat.ble 4 j && Nat.blt j 10
set_option maxHeartbeats 32000000 in
theorem Solve_ok (n : Nat) (rs : List Rw) (c : List Int) (hL : LpOk n rs c) (hv : validR n rs = true) (hc : okCoeffs n c = true) {T0 E F : Tv} {s : Int} (R : SolRun n rs c T0 E F s) : Ok Tryz.prog 81 [intC n, rowsC rs, intsC c] (.fr (tupT [ocC (ocOf n rs.length T0 E F s), intC 0])) := by
  have hn := hL.nn; have hm := hL.mm; have hV := LValid_ok n rs (by omega) (fun r hr => by have := hL.rl r hr; omega); have hC := validCoeffs_ok n c (by have := hL.cl; omega); rw [hv] at hV; rw [hc] at hC; have hB := begin_ok n rs c (by omega) (by omega) (lp_rw hL).1 (lp_rw hL).2 hL.cl; have hGd := R.beg.view.gd (lp_sys hL) R.beg.hl (by rw [R.beg.len]; omega) (by rw [R.beg.col, XK]; omega); have hT0l := R.beg.len
  have hT0c : T0.col.length = n := by rw [R.beg.col, XK]
  have hT0b : T0.bas.length = rs.length := by rw [R.beg.bas, XK]
  refine Ok.enter Tryz.func81 J _ Tryz.ntmps81 J ?_
  intro S w; refine Qy (Qx fun K hK => ?_); refine Qi 4 J J zvOut J J J (Qv J J J (Qj (hK _ _ (Qz (Qy (Qy ?_)))))); clear hK K; refine Qx (fun K hK => ?_); refine Qq J J J (Qq J J J (QV goLValid hV J J J J (Xx J J J (Qq J J J (Qq J J J (Qq J J J (QV govalidCoeffs hC J J J J (Xx J J J (Q6 J J J J (Qj (hK _ _ (Qz (Xu J (QK (Qz (Qy ?_)))))))))))))))); clear hK K; refine Qx (fun K hK => ?_); refine Qq J J J (Qh J J sRows.und (List.length_map ..) J (Qv J J J (Qj (hK _ _ (Qz (Qy ?_)))))); clear hK K; refine Qx (fun K hK => ?_); refine Qq J J J (Qq J J J (Qq J J J (Ops.callM [(4, _)] kpB gobegin hB J J J (fun gb hg => hg.elim) (fun _ => rfl) (fun j hj => ?_) (fun j hj => ?_) (fun p hp => absurd hp (by simp)) (fun q j hq => ?_) (fun T hT => ?_))))
  · have hj4 : j = 4 := by
      by_cases h4 : 4 = j
      · exact h4.symm
      · rw [Q1 _ _ h4] at hj; cases hj
    subst hj4; exact ⟨rfl, fun q => tab_none (by decide) (by decide)⟩
  · unfold kpB at hj; rw [Bool.and_eq_true] at hj
    exact .inr fun q => tab_none (Nat.le_of_ble_eq_true hj.1) (Nat.le_of_ble_eq_true hj.2)
  · rcases hq with hq | ⟨o, hq⟩ <;> cases hq; rfl
  obtain ⟨H, rfl⟩ : ∃ H : Tv, T = T0.wh H := ⟨T, wh_of (hT.rows.trans R.beg.rows.symm) (hT.bas.trans R.beg.bas.symm) (hT.col.trans R.beg.col.symm) (hT.den.trans R.beg.den.symm)⟩
  have hHl : H.hl.length = T0.rows.length := by have := hT.hl; rw [hT0l]; exact this
  have hst := start_ok (T0.wh H) (E.wh { H with hl := H.hl ++ [default] }) ((n + rs.length : Nat) : Int) (by omega) (by omega) (hGd.fit.wh hHl) (by show T0.rows.length = T0.bas.length + 1; omega) (hGd.wh hHl).short (fun h hh => by
    obtain ⟨gb, hg⟩ := hT.lines h hh
    exact ⟨gb, by rw [hg]; show Value.slice _ (n + 1) (n + 1) = kh gb 0 (T0.col.length + 1) (T0.col.length + 1); rw [hT0c]⟩) (fun hw => by
      rw [show (T0.wh H).bas = T0.bas from rfl, wrS_wh, hT0b] at hw
      exact (R.start hw).wh H hHl) (by show T0.rows.length ≤ 90; omega) (by show T0.col.length ≤ 90; omega)
  rw [stRes_wh] at hst
  refine Ops.reB (B' := [(4, _)] ++ tabB (T0.wh H)) (fun j => tab_swap J _ j) ?_
  refine Qv J J J (Qj (hK _ _ (Qz (Qy (Qy ?_))))); clear hK K; refine Qx (fun K hK => ?_); refine Qq J J J (Qq J J J (Qq J J J (Qk (iadd (by omega) (by omega)) J J J J ?_))); rw [show (n : Int) + (rs.length : Int) = ((n + rs.length : Nat) : Int) from (Int.natCast_add ..).symm]; refine X2 [(4, _)] gostart hst J J J (fun gb hg => hg.elim) J J (fun p hp => absurd hp (by simp)) (fun H1 hH1 => ?_); rw [stOut_wh]; rw [stOut_rows] at hH1; have hE := R.eg; have hRu := R.run; have hFr := R.fr
  have hoc : ocOf n rs.length T0 E F s = if stRes T0 E = false then ⟨3, frz0, [], [], (duS E n rs.length (rs.length + 1) E.col.length).map ofQ⟩ else if 0 ≤ s then ⟨2, frz0, (ptS F n F.bas.length).map ofQ, (raS F n s.toNat F.bas.length).map ofQ, []⟩ else ⟨1, ofQ (shq (F.at rs.length F.col.length) F.den), (ptS F n F.bas.length).map ofQ, [], (duS F n rs.length rs.length F.col.length).map ofQ⟩ := rfl
  generalize hP : stOut T0 E ((n + rs.length : Nat) : Int) = P at *; clear hst hV hC hB hGd hT
  cases hres : stRes T0 E with
  | false =>
    rw [if_pos hres] at hoc; obtain ⟨hGE, hEr, hEc⟩ := hE hres; rw [stOut_none hres] at hP; subst hP; have hdu := dual_ok (E.wh H1) (hGE.wh hH1) n rs.length (rs.length + 1) (by omega) (by omega) (by show _ < E.rows.length; omega) hEc; rw [duS_wh] at hdu; refine Xx J J J (Qj (hK _ _ (Qz (XZ J (Qy ?_))))); clear hK K; refine Qx (fun K hK => ?_); refine Qq J J J (Qq J J J (Qq J J J (Qq J J J (Qk (iadd (by omega) (by omega)) J J J J ?_)))); refine X2 [(4, _)] godual hdu J J J (fun gb hg => hg.elim) J J (fun p hp => absurd hp (by simp)) (fun _ _ => ?_); refine Qp J bOut J (.one J J J J (.one J J J J .nil)) J (Qd 7 J J J J J szOut J J (Qv J J J (Qj (hK _ _ (Qz (Q0 (QY ?_))))))); clear hK K
    have hw : argW [.ex (.int .i64 3), .ex (.bool false), .ex (.slice none 0 0), .ex (.slice none 0 0), .ex (.slice none 0 0), .ex (.slice none 0 0), fracsC ((duS E n rs.length (rs.length + 1) E.col.length).map ofQ)] (ocCs (ocOf n rs.length T0 E F s)) := by
      rw [hoc]; exact ⟨YK, YK, w_nat0, w_nat0, Y3, Y3, YK, trivial⟩
    refine QU [_, _] rfl (Xa (w_agg hw) (Qg J J lOut J (QQ J QZ))) J J
  | true =>
    rw [if_neg (by rw [hres]; decide)] at hoc; obtain ⟨k, hk⟩ := hRu hres; obtain ⟨hF1, hF2, hF3, hF4, hF5⟩ := hFr hres; have hlen := hk.lens; have hGF := hk.last; have hG1 := hGF.wh (H := H1) (by rw [hH1, hlen.1]); have hmx := maximize_ok (P.wh H1) (F.wh H1) rs.length s k (hk.wh hH1) (by show _ < P.rows.length; omega); refine Xx J J J (Qj (hK _ _ (Qz (Xu J (QK (Qz (Qy (Qy ?_)))))))); clear hK K; refine Qx (fun K hK => ?_); refine Qq J J J (Qq J J J (X2 [(4, _)] gomaximize hmx J J J (fun gb hg => hg.elim) J J (fun p hp => absurd hp (by simp)) (fun _ _ => ?_))); have hpt := point_ok (F.wh H1) hG1 n (by omega) hF3; rw [ptS_wh] at hpt; refine Qv J J J (Qj (hK _ _ (Qz (Qy ?_)))); clear hK K; refine Qx (fun K hK => ?_); refine Qq J J J (Qk igeq J J J J (Qj (hK _ _ (Qz ?_)))); clear hK K; refine Q2 J (fun h0 => ?_) (fun h0 => ?_)
    · rw [if_pos h0] at hoc; obtain ⟨e, rfl⟩ : ∃ e : Nat, s = e := ⟨s.toNat, by omega⟩; rw [Int.toNat_natCast] at hoc; have hra := ray_ok (F.wh H1) hG1 n e (by omega) (by show e < F.col.length; omega) hF3 hF2; rw [raS_wh] at hra; refine Qy (Qx fun K hK => ?_); refine Qq J J J (Qq J J J (X2 [(4, _)] gopoint hpt J J J (fun gb hg => hg.elim) J J (fun p hp => absurd hp (by simp)) (fun _ _ => ?_))); refine Qq J J J (Qq J J J (Qq J J J (X2 [(4, _)] goray hra J J J (fun gb hg => hg.elim) J J (fun p hp => absurd hp (by simp)) (fun _ _ => ?_)))); refine Qp J bOut J (.one J J J J (.one J J J J (.one J J J J .nil))) J (Qd 7 J J J J J szOut J J (Qv J J J (Qj (hK _ _ (Qz (Q0 (QY ?_))))))); clear hK K
      have hw : argW [.ex (.int .i64 2), .ex (.bool false), .ex (.slice none 0 0), .ex (.slice none 0 0), fracsC ((ptS F n F.bas.length).map ofQ), fracsC ((raS F n e F.bas.length).map ofQ), .ex (.slice none 0 0)] (ocCs (ocOf n rs.length T0 E F e)) := by
        rw [hoc]; exact ⟨YK, YK, w_nat0, w_nat0, YK, YK, Y3, trivial⟩
      refine QU [_, _] rfl (Xa (w_agg hw) (Qg J J lOut J (QQ J QZ))) J J
    · rw [if_neg h0] at hoc; have hdu := dual_ok (F.wh H1) hG1 n rs.length rs.length (by omega) (by omega) (by show _ < F.rows.length; omega) hF2; rw [duS_wh] at hdu; have ssh := hGF.short rs.length F.col.length; have hsh := share_ok (F.wh H1) (F.at rs.length F.col.length) (by omega) hG1.den (Nat.le_trans hG1.dens (by decide))
      have km : (rs.length : Int).toNat * 1 = rs.length := by omega
      have kc : (F.col.length : Int).toNat * 2 = F.col.length * 2 := by omega
      have hrow := hGF.fit.row rs.length (by omega); have hthin := hGF.fit.thin; refine QK (Qz (Qy ?_)); refine St.drawL mixed [15, 18, 23, 25] (.p 0 (.p 1 (.p 2 (.p 3 (.p 5 (.p 8 (.p 9 (.p 10 (.p 16 (.p 17 (.p 19 (.p 20 (.p 21 (.p 22 (.f 4 (.p 6 (.f 7 (.f 11 (.p 12 (.p 13 (.f 14 (.a 15 (.a 18 (.a 23 (.p 24 (.a 25 (.p 26 .done))))))))))))))))))))))))))) (by kernel_rfl) (fun K hK => ?_); refine Qq J J J (Qq J J J (QW J J J J (QJ J J J fT0 J (Qq J J J (Qq J J J (QW J J J J (QJ J J J fT2 J (Qq J J J (Qq J J J (Qq J J J (Qq J J J (Qq J J J (Qq J J J (QX J J J J J lMat J (Qn 1 (rs.length + 1) J J J (by rw [List.length_map]; show H1.hl.length = _; rw [hH1, ← hlen.1]; omega) J sMat (by omega) (by omega) J ?_))))))))))))))); rw [km]
      refine QX J J J J (Zf (by show _ < H1.hl.length; rw [hH1, ← hlen.1]; omega)) lWhs J ?_
      refine QX J J J J J lInts J (ZW 3 F.col.length J J J (by decide) (by show (ints F.col).length = _; simp) sInts.und J ?_)
      refine Qn (rs.length + 10) (F.col.length + 1) J J (Xj (by show _ < H1.hl.length; rw [hH1, ← hlen.1]; omega) (by show _ < F.rows.length; omega)) (by rw [XV]; show (F.rows.getD rs.length []).length * 2 = _; rw [hrow]) J sWhs (by omega) (by omega) J ?_
      rw [kc]
      refine ldWh J J J (Xj (by show _ < H1.hl.length; rw [hH1, ← hlen.1]; omega) (by show _ < F.rows.length; omega)) J (by show _ < (F.rows.getD rs.length []).length; omega) lWh J ?_
      refine X2 [(4, _)] goshare hsh J J J (fun gb hg => hg.elim) J J (fun p hp => absurd hp (by simp)) (fun _ _ => ?_); refine X2 [(4, _)] gopoint hpt J J J (fun gb hg => hg.elim) J J (fun p hp => absurd hp (by simp)) (fun _ _ => ?_); refine X2 [(4, _)] godual hdu J J J (fun gb hg => hg.elim) J J (fun p hp => absurd hp (by simp)) (fun _ _ => ?_); refine Qp J bOut J (.one J J J J (.agg J J J J (.one J J J J (.one J J J J .nil)))) J (Qd 7 J J J J J szOut J J (Qv J J J (Qj (hK _ _ (Qz (Q0 ?_)))))); clear hK K
      have hw : argW ([.ex (.int .i64 1)] ++ frCs (ofQ (shq (F.at rs.length F.col.length) F.den)) ++ [fracsC ((ptS F n F.bas.length).map ofQ), .ex (.slice none 0 0), fracsC ((duS F n rs.length rs.length F.col.length).map ofQ)]) (ocCs (ocOf n rs.length T0 E F s)) := by
        rw [hoc]; exact ⟨YK, YK, YK, YK, YK, Y3, YK, trivial⟩
      refine QU [_, _] rfl (Xa (w_agg hw) (Qg J J lOut J (QQ J QZ))) J J
end Go.Proofs.YtojkdfilabmafaaGreat
namespace Go.Proofs.YtojkdfilabmafaaGreat
open Go.Own Go.Limbs Go.Det
section
variable {n : Nat} {rs : List Rw} {c : List Int}
def rsum (n : Nat) (cs : List Int) (X : Nat → Int) : Int := sm (fun j => cs.getD j 0 * X j) n
theorem rws_mem {i : Nat} (h : i < rs.length) : rs.getD i rw0 ∈ rs := by
  rw [List.getD_eq_getElem?_getD, List.getElem?_eq_getElem h]; exact List.getElem_mem h
theorem rws_at {r : Rw} (h : r ∈ rs) : ∃ a, a < rs.length ∧ rs.getD a rw0 = r := by
  obtain ⟨a, ha, e⟩ := List.getElem_of_mem h
  exact ⟨a, ha, by rw [List.getD_eq_getElem?_getD, List.getElem?_eq_getElem ha]; exact e⟩
theorem feas_of {X : Nat → Int} (h0 : ∀ v, v < n → 0 ≤ X v) (h : ∀ r ∈ rs, rsum n r.cs X ≤ r.b) : Feas n rs 1 X :=
  ⟨by decide, h0, fun i hi => by rw [Int.one_mul]; exact h _ (rws_mem hi)⟩
theorem sm_ind (f : Nat → Int) {a m : Nat} (h : a < m) : sm (fun i => f i * (if i = a then 1 else 0)) m = f a := by
  rw [Yj h (fun k _ hk => by rw [if_neg hk, Int.mul_zero]), if_pos rfl, Int.mul_one]
theorem sm_ind2 (f : Nat → Int) {a b m : Nat} (h : a < m) (h2 : b < m) : sm (fun i => f i * ((if i = a then 1 else 0) + (if i = b then 1 else 0))) m = f a + f b := by
  rw [X9 (g := fun i => f i * (if i = a then 1 else 0) + f i * (if i = b then 1 else 0)) (fun k _ => Int.mul_add ..), sm_add, sm_ind f h, sm_ind f h2]
theorem dual_two {r1 r2 : Rw} (h1 : r1 ∈ rs) (h2 : r2 ∈ rs) (hc : ∀ j, j < n → c.getD j 0 ≤ r1.cs.getD j 0 + r2.cs.getD j 0) : ∃ Y, Dual n rs c 1 Y ∧ sm (fun i => cb rs i * Y i) rs.length = r1.b + r2.b := by
  obtain ⟨a, ha, ea⟩ := rws_at h1
  obtain ⟨b, hb, eb⟩ := rws_at h2
  refine ⟨fun i => (if i = a then 1 else 0) + (if i = b then 1 else 0), ⟨by decide, fun i _ => by split <;> split <;> decide, fun j hj => ?_⟩, ?_⟩
  · rw [sm_ind2 (fun i => ca rs i j) ha hb, Int.one_mul]
    show _ ≤ (rs.getD a rw0).cs.getD j 0 + (rs.getD b rw0).cs.getD j 0
    rw [ea, eb]; exact hc j hj
  · rw [sm_ind2 (fun i => cb rs i) ha hb]
    show (rs.getD a rw0).b + (rs.getD b rw0).b = _
    rw [ea, eb]
theorem dual_one {r1 : Rw} (h1 : r1 ∈ rs) (hc : ∀ j, j < n → c.getD j 0 ≤ r1.cs.getD j 0) : ∃ Y, Dual n rs c 1 Y ∧ sm (fun i => cb rs i * Y i) rs.length = r1.b := by
  obtain ⟨a, ha, ea⟩ := rws_at h1
  refine ⟨fun i => if i = a then 1 else 0, ⟨by decide, fun i _ => by split <;> decide, fun j hj => ?_⟩, ?_⟩
  · rw [sm_ind (fun i => ca rs i j) ha, Int.one_mul]
    show _ ≤ (rs.getD a rw0).cs.getD j 0
    rw [ea]; exact hc j hj
  · rw [sm_ind (fun i => cb rs i) ha]
    show (rs.getD a rw0).b = _
    rw [ea]
end
structure Btw (A B : Int) (f : Fr) : Prop where
  den : 0 < f.den
  lo : A * f.den ≤ sg f.neg f.num
  hi : sg f.neg f.num ≤ B * f.den
theorem mkRat_rel (val : Int) {d : Nat} (hd : 0 < d) : val * (mkRat val d).den = (mkRat val d).num * d :=
  (Rat.mkRat_eq_iff (n₁ := val) (d₁ := d) (n₂ := (mkRat val d).num) (d₂ := (mkRat val d).den) (by omega) (mkRat val d).den_nz).1 (Rat.mkRat_self _).symm
theorem btw_of {A B val D : Int} (hD : 0 < D) (h1 : A * D ≤ val) (h2 : val ≤ B * D) : Btw A B (ofQ (shq val D)) := by
  obtain ⟨d, rfl⟩ : ∃ d : Nat, D = d := ⟨D.toNat, by omega⟩
  have e : shq val (d : Int) = mkRat val d := by unfold shq; rw [Int.natAbs_natCast]
  rw [e]
  have h := mkRat_rel val (d := d) (by omega)
  have hp := (mkRat val d).den_pos
  have hs := ofQ_sg (mkRat val d)
  have hd : (ofQ (mkRat val d)).den = (mkRat val d).den := rfl
  refine ⟨hp, ?_, ?_⟩
  · rw [hs, hd]
    generalize (mkRat val d).den = q at *
    generalize (mkRat val d).num = p at *
    refine Int.le_of_mul_le_mul_right ?_ hD
    rw [← h]
    have := Int.mul_le_mul_of_nonneg_right h1 (show 0 ≤ (q : Int) by omega)
    rw [show A * (q : Int) * d = A * d * q by grind]; exact this
  · rw [hs, hd]
    generalize (mkRat val d).den = q at *
    generalize (mkRat val d).num = p at *
    refine Int.le_of_mul_le_mul_right ?_ hD
    rw [← h]
    have := Int.mul_le_mul_of_nonneg_right h2 (show 0 ≤ (q : Int) by omega)
    rw [show B * (q : Int) * d = B * d * q by grind]; exact this
theorem flV_btw {A B : Int} {f : Fr} (h : Btw A B f) (hA : -1152921504606846976 ≤ A) (hB : B ≤ 1152921504606846976) : A ≤ flV f ∧ flV f ≤ B := by
  have hz := floor_sg f.neg f.num f.den h.den
  have h1 : A ≤ sg f.neg f.num / (f.den : Int) := Int.le_ediv_of_mul_le (by have := h.den; omega) h.lo
  have h2 : sg f.neg f.num / (f.den : Int) ≤ B := Int.ediv_le_of_le_mul (by have := h.den; omega) h.hi
  rw [← hz] at h1 h2
  have h3 := natAbs_sg f.neg (rnd f.num f.den f.neg)
  unfold flV
  rw [if_pos (by omega)]
  exact ⟨h1, h2⟩
theorem Kt_mono {m : Nat} (h : m ≤ 64) : Kt m ≤ Kt 64 := by
  unfold Kt
  exact Nat.mul_le_mul (by omega) (Nat.mul_le_mul_left _ (Nat.mul_le_mul (fact_mono (by omega)) (Nat.pow_le_pow_right (by decide) (by omega))))
theorem Kt_len {m : Nat} (h : m ≤ 64) {x : Nat} (hx : x ≤ Kt m) : (limbs x).length ≤ 100 := Xl (Nat.lt_of_le_of_lt (Nat.le_trans hx (Kt_mono h)) (by decide +kernel))
theorem sol_btw {n : Nat} {rs : List Rw} {c : List Int} {O : Oc} (h : Sol n rs c O) (hm : rs.length ≤ 64) {X Y : Nat → Int} (hX : Feas n rs 1 X) (hY : Dual n rs c 1 Y) :
    O.kind = 1 ∧ Btw (rsum n c X) (sm (fun i => cb rs i * Y i) rs.length) O.value := by
  cases h with
  | opt D X' Y' val hX' hv hY' hw b1 b2 b3 b4 =>
    refine ⟨rfl, btw_of hX'.den ?_ ?_⟩
    · have := weak hX hY'
      rw [hw, Int.one_mul] at this
      rw [Int.mul_comm]; exact this
    · have := weak hX' hY
      rw [hv, Int.one_mul] at this
      rw [Int.mul_comm]; exact this
  | unb D X' Z hX' hZ => exact (no_ray hZ hY).elim
  | emp D Y' hY' => exact (no_refu hX hY').elim
theorem sol_len {n : Nat} {rs : List Rw} {c : List Int} {O : Oc} (h : Sol n rs c O) (hm : rs.length ≤ 64) : (limbs O.value.num).length ≤ 100 ∧ (limbs O.value.den).length ≤ 100 ∧ (O.kind = 1 → 0 < O.value.den) := by
  have h0 : (limbs 0).length ≤ 100 := by rw [limbs_zero]; exact Nat.zero_le _
  cases h with
  | opt D X' Y' val hX' hv hY' hw b1 b2 b3 b4 =>
    have hD := hX'.den
    have hr := redF_q (decide (val < 0)) val.natAbs D.natAbs (by omega)
    rw [sg_natAbs] at hr
    have e : ofQ (shq val D) = redF (decide (val < 0)) val.natAbs D.natAbs := hr.symm
    refine ⟨?_, ?_, fun _ => (shq val D).den_pos⟩
    · show (limbs (ofQ (shq val D)).num).length ≤ 100
      rw [e]; exact Nat.le_trans (Xp (Nat.div_le_self _ _)) (Kt_len hm b4)
    · show (limbs (ofQ (shq val D)).den).length ≤ 100
      rw [e]; exact Nat.le_trans (Xp (Nat.div_le_self _ _)) (Kt_len hm b1)
  | unb => exact ⟨h0, h0, fun h => by cases h⟩
  | emp => exact ⟨h0, h0, fun h => by cases h⟩
theorem lpOf {n : Int} {rs : List Rw} {c : List Int} (hv : validR n rs = true) (hc : okCoeffs n c = true) : ∃ N : Nat, n = N ∧ LpOk N rs c := by
  obtain ⟨v1, v2, v3, v4⟩ := validR_spec hv
  obtain ⟨N, rfl⟩ : ∃ N : Nat, n = N := ⟨n.toNat, by omega⟩
  have bdd : ∀ xs : List Int, (∀ y ∈ xs, y.natAbs ≤ 1048576) → ∀ i, (xs.getD i 0).natAbs ≤ 1048576 := fun xs hx i => by
    rcases Nat.lt_or_ge i xs.length with h | h
    · exact hx _ (getD_mem h)
    · rw [getD_ge h]; decide
  unfold okCoeffs at hc
  rw [Bool.and_eq_true] at hc
  have h1 := of_decide_eq_true hc.1
  have h2 : ∀ y ∈ c, y.natAbs ≤ 1048576 := fun y hy => by
    have h3 : c.any badC = false := by simpa using hc.2
    have h4 := List.any_eq_false.1 h3 y hy
    unfold badC at h4
    simp only [Bool.or_eq_true, decide_eq_true_eq, not_or] at h4
    omega
  exact ⟨N, rfl, ⟨by omega, v3, by omega, bdd c h2, fun r hr => by have := (v4 r hr).1; omega, fun r hr => bdd _ (v4 r hr).2.1, fun r hr => (v4 r hr).2.2⟩⟩
end Go.Proofs.YtojkdfilabmafaaGreat
namespace Go.Proofs.YtojkdfilabmafaaGreat
open Go.Own Go.Limbs
attribute [local irreducible] St Ops Go.Own.Fin Ok OkB OkN OkT OkL OkF
theorem goCompact_Wr : InGo Tryz.prog 62 := InGo.of Tryz.func62 (by kernel_rfl) (by kernel_rfl)
set_option maxHeartbeats 4000000 in
theorem Compact_Wr_ok (l : List Wr) (hl : l.length ≤ 1000000000) : OkT Tryz.prog 62 37 2 (wrs l) [] (wrs (dd l)) := by
  refine OkT.enter Tryz.func62 rfl _ Tryz.ntmps62 rfl ?_
  intro S w h0
  (refine Qy (Qx fun K hK => ?_); refine Qv rfl rfl rfl ?_; refine Qj (hK _ _ (Qz (Qy (Qy ?_)))); clear hK K; refine Qx (fun K hK => ?_); refine Qq rfl rfl rfl ?_)
  refine Yq l.length rfl rfl rfl (by decide) (wrs_len l) (by with_reducible exact sWrs.und) rfl ?_
  (refine Qk ilss rfl rfl rfl rfl ?_; refine Qj (hK _ _ (Qz ?_)); clear hK K)
  refine Q2 rfl (fun h => ?_) (fun h => ?_)
  · rw [dd_small (l := l) (by omega)]
    (refine Qy (Qx fun K hK => ?_); refine Qq rfl rfl rfl ?_; refine Qv rfl rfl rfl ?_; refine Qj (hK _ _ (Qz (Q0 (QY ?_)))); clear hK K)
    refine Y5 rfl rfl rfl
  (refine QK (Qz (Qy (Qy (Qx fun K hK => ?_)))); refine Qv rfl rfl rfl ?_; refine Qj (hK _ _ (Qz (Q5 ?_))); clear hK K)
  refine Qs (α := Nat) (fun i => i + 1 ≤ l.length ∧ dd (l.take (i + 1)) = l.take (i + 1))
    (fun i => [(0, .own 0), (3, .ct (intC (i + 1)))]) (fun _ => [(0, .row 37 2 (wrs l))]) (fun i => l.length - i) 0 ⟨by omega, dd_small (by rw [List.length_take]; omega)⟩ (by exact Qu rfl ⟨rfl, rfl, trivial⟩) ?_
  rintro i ⟨hi, hd⟩
  try dsimp only at hi hd
  try dsimp only
  (refine Qy (Qy (Qx fun K hK => ?_)); refine Qq rfl rfl rfl ?_; refine Qq rfl rfl rfl ?_)
  refine Yq l.length rfl rfl rfl (by decide) (wrs_len l) (by with_reducible exact sWrs.und) rfl ?_
  (refine Qk ilss rfl rfl rfl rfl ?_; refine Qj (hK _ _ (Qz ?_)); clear hK K)
  refine Q2 rfl (fun h => ?_) (fun h => ?_)
  rotate_left
  · have e : dd l = l := by
      have := hd
      rw [List.take_of_length_le (by omega)] at this
      exact this
    rw [e]
    (refine Qo (Qz (Qy (Qx fun K hK => ?_))); refine Qq rfl rfl rfl ?_; refine Qv rfl rfl rfl ?_; refine Qj (hK _ _ (Qz (Q0 ?_))); clear hK K)
    refine Y5 rfl rfl rfl
  (refine QK (Qz (Qy (Q5 (Qy ?_)))))
  refine Xw (by with_reducible exact mixed) 10 (.p 0 (.p 1 (.p 2 (.p 4 (.p 5 (.p 6 (.p 7 (.f 3 (.f 8 (.p 9 .done)))))))))) (by kernel_rfl) (fun K hK => ?_)
  (refine Qq rfl rfl rfl ?_; refine Qq rfl rfl rfl ?_)
  refine XJ l.length rfl rfl rfl (wrs_len l) rfl (by with_reducible exact sWrs) (by omega) (by omega) rfl ?_
  (refine Qq rfl rfl rfl ?_; refine Qq rfl rfl rfl ?_; refine Qk (isub (by omega) (by omega)) rfl rfl rfl rfl ?_)
  refine XJ l.length rfl rfl rfl (wrs_len l) rfl (by with_reducible exact sWrs) (by omega) (by omega) rfl ?_
  skip
  refine ldE wrCs wr0 wr_len rfl rfl rfl rfl rfl (by omega) (by with_reducible exact lWire) rfl ?_
  refine ldE wrCs wr0 wr_len rfl rfl rfl rfl rfl (by omega) (by with_reducible exact lWire) rfl ?_
  rw [show ((i : Int) + 1).toNat = i + 1 by omega, show ((i : Int) + 1 - 1).toNat = i by omega]
  generalize hx : l.getD i wr0 = x
  generalize hy : l.getD (i + 1) wr0 = y
  refine eqWr y x rfl rfl rfl rfl rfl ?_
  (refine Qj (hK _ _ (Qz ?_)); clear hK K)
  have hs := dd_step (l := l) (z := wr0) (p := i + 1) (by omega) (by omega)
  rw [show i + 1 - 1 = i by omega, hx, hy] at hs
  refine Q2 rfl (fun he => ?_) (fun he => ?_)
  rotate_left
  · (refine QK (Qz (Qx fun K hK => ?_)); refine Qq rfl rfl rfl ?_; refine Qk (iadd (by omega) (by omega)) rfl rfl rfl rfl ?_; refine Qv rfl rfl rfl ?_; refine Qj (hK _ _ (Q7 ?_)); clear hK K)
    refine Qb (i + 1) (by omega) ⟨by omega, ?_⟩ (by exact Qu rfl ⟨rfl, by simp only [Int.natCast_add]; rfl, trivial⟩)
    rw [hs, if_neg he, hd, List.take_add_one (i := i + 1), List.getElem?_eq_getElem (by omega), ← hy, List.getD_eq_getElem?_getD, List.getElem?_eq_getElem (by omega)]; rfl
  rw [if_pos he, hd] at hs
  refine St.nameS 0 0 l.length rfl rfl (wrs_len l) (by omega) (by decide) (fun gb c hc1 hc2 => ?_)
  (refine Qy (Qx fun K hK => ?_); refine Qq rfl rfl rfl ?_; refine Qq rfl rfl rfl ?_)
  refine Z3 (i + 1) rfl rfl rfl (by omega) sWrs (by omega) rfl ?_
  rw [if_neg (show ¬ c = i + 1 by omega), Nat.zero_add]
  (refine Qv rfl rfl rfl ?_; refine Qj (hK _ _ (Qz (Qy (Qy ?_)))); clear hK K; refine Qx (fun K hK => ?_); refine Qv rfl rfl rfl ?_; refine Qj (hK _ _ (Qz (Q5 ?_))); clear hK K)
  refine Qs (α := Nat) (fun j => i + 2 + j ≤ l.length ∧ (dd (l.take (i + 2 + j))).length < i + 2 + j)
    (fun j => [(0, .ct (.ex (kh gb 0 l.length c))), (3, .ct (intC (dd (l.take (i + 2 + j))).length)), (4, .ct (.ex (kh gb ((i + 1) * 2) (l.length - (i + 1)) (c - (i + 1))))), (5, .ct (intC (j + 1)))])
    (fun j => [(0, .rowx (kh gb 0 l.length c) 37 2 (wrs (dd (l.take (i + 2 + j)) ++ l.drop (dd (l.take (i + 2 + j))).length)))]) (fun j => l.length - j) 0
    ⟨by omega, by rw [Nat.add_zero, hs, List.length_take]; omega⟩ (by
      rw [Nat.add_zero, hs, List.length_take, Nat.min_eq_left hi, List.take_append_drop]
      exact Qu rfl ⟨rfl, rfl, rfl, rfl, trivial⟩) ?_
  clear hs
  rintro j ⟨hj, hD⟩
  try dsimp only at hj hD
  try dsimp only
  have hs := dd_step (l := l) (z := wr0) (p := i + 2 + j) (by omega)
  generalize hDD : dd (l.take (i + 2 + j)) = D at hs hD ⊢
  have hrl : (D ++ l.drop D.length).length = l.length := by rw [List.length_append, List.length_drop]; omega
  have hat : ∀ q, D.length ≤ q → (D ++ l.drop D.length).getD q wr0 = l.getD q wr0 := fun q hq => row_at D l q wr0 hq
  (refine Qy (Qy (Qx fun K hK => ?_)); refine Qq rfl rfl rfl ?_; refine Qq rfl rfl rfl ?_)
  refine Zn rfl rfl sWrs.und rfl ?_
  (refine Qk ilss rfl rfl rfl rfl ?_; refine Qj (hK _ _ (Qz ?_)); clear hK K)
  refine Q2 rfl (fun h2 => ?_) (fun h2 => ?_)
  · (refine QK (Qz (Qy (Q5 (Qy ?_)))))
    refine Xw (by with_reducible exact mixed) 10 (.p 0 (.p 1 (.p 2 (.p 4 (.p 5 (.p 6 (.p 7 (.f 3 (.f 8 (.p 9 .done)))))))))) (by kernel_rfl) (fun K hK => ?_)
    (refine Qq rfl rfl rfl ?_; refine Qq rfl rfl rfl ?_)
    refine Z2 0 (i + 1) rfl rfl rfl rfl sWrs (by omega) (by omega) rfl ?_
    (refine Qq rfl rfl rfl ?_; refine Qq rfl rfl rfl ?_; refine Qk (isub (by omega) (by omega)) rfl rfl rfl rfl ?_)
    refine Z2 0 (i + 1) rfl rfl rfl rfl sWrs (by omega) (by omega) rfl ?_
    skip
    refine ldE wrCs wr0 wr_len rfl rfl rfl rfl rfl (by omega) (by with_reducible exact lWire) rfl ?_
    refine ldE wrCs wr0 wr_len rfl rfl rfl rfl rfl (by omega) (by with_reducible exact lWire) rfl ?_
    rw [show i + 1 + ((j : Int) + 1).toNat = i + 2 + j by omega, show i + 1 + ((j : Int) + 1 - 1).toNat = i + 2 + j - 1 by omega, hat _ (by omega), hat _ (by omega)]
    have hs := hs (by omega)
    generalize hx2 : l.getD (i + 2 + j - 1) wr0 = x2 at hs ⊢
    generalize hy2 : l.getD (i + 2 + j) wr0 = y2 at hs ⊢
    refine neWr y2 x2 rfl rfl rfl rfl rfl ?_
    (refine Qj (hK _ _ (Qz ?_)); clear hK K)
    refine Q2 rfl (fun he2 => ?_) (fun he2 => ?_)
    · rw [if_neg he2] at hs
      (refine Qy (Qx fun K hK => ?_); refine Qq rfl rfl rfl ?_; refine Qq rfl rfl rfl ?_; refine Qq rfl rfl rfl ?_; refine Qq rfl rfl rfl ?_)
      refine Z2 0 (i + 1) rfl rfl rfl rfl sWrs (by omega) (by omega) rfl ?_
      refine ldE wrCs wr0 wr_len rfl rfl rfl rfl rfl (by omega) (by with_reducible exact lWire) rfl ?_
      rw [show i + 1 + ((j : Int) + 1).toNat = i + 2 + j by omega, hat _ (by omega), hy2]
      refine Z2 0 0 rfl rfl rfl rfl sWrs (by omega) (by omega) rfl ?_
      rw [Nat.zero_add, show ((D.length : Int)).toNat = D.length by omega]
      refine stEX wrCs y2 wr_len rfl rfl rfl rfl rfl (by omega) (by with_reducible exact szWire) ?_
      rw [row_set D l y2 (by omega)]
      (refine Qj (hK _ _ (Qz ?_)); clear hK K; refine Qx (fun K hK => ?_); refine Qq rfl rfl rfl ?_; refine Qk (iadd (by omega) (by omega)) rfl rfl rfl rfl ?_; refine Qv rfl rfl rfl ?_; refine Qj (hK _ _ (Qz ?_)); clear hK K; refine Qx (fun K hK => ?_); refine Qq rfl rfl rfl ?_; refine Qk (iadd (by omega) (by omega)) rfl rfl rfl rfl ?_; refine Qv rfl rfl rfl ?_; refine Qj (hK _ _ (Q7 ?_)); clear hK K)
      refine Qb (j + 1) (by omega) ⟨by omega, by show (dd (l.take (i + 2 + j + 1))).length < _; rw [hs, List.length_append]; show D.length + 1 < _; omega⟩ ?_
      rw [show i + 2 + (j + 1) = i + 2 + j + 1 by omega, hs, List.length_append]
      exact Qu rfl ⟨rfl, by simp only [Int.natCast_add]; rfl, rfl, by simp only [Int.natCast_add]; rfl, trivial⟩
    · rw [if_pos (Decidable.not_not.1 he2)] at hs
      (refine QK (Qz (Qx fun K hK => ?_)); refine Qq rfl rfl rfl ?_; refine Qk (iadd (by omega) (by omega)) rfl rfl rfl rfl ?_; refine Qv rfl rfl rfl ?_; refine Qj (hK _ _ (Q7 ?_)); clear hK K)
      refine Qb (j + 1) (by omega) ⟨by omega, by show (dd (l.take (i + 2 + j + 1))).length < _; rw [hs]; omega⟩ ?_
      rw [show i + 2 + (j + 1) = i + 2 + j + 1 by omega, hs]
      exact Qu rfl ⟨rfl, rfl, rfl, by simp only [Int.natCast_add]; rfl, trivial⟩
  · have e : dd l = D := by rw [← hDD, List.take_of_length_le (by omega)]
    rw [e]
    (refine Qo (Qz (Qy (Qx fun K hK => ?_))); refine Qq rfl rfl rfl ?_; refine Qq rfl rfl rfl ?_)
    refine Z3 D.length rfl rfl rfl rfl sWrs (by omega) rfl ?_
    skip
    refine Ops.cutOff 0 D.length rfl (by show (wrs _).length = _; rw [wrs_len, hrl]) (by decide) (by omega) (by show (wrs _).take _ = wrs D; rw [wrs_take, List.take_left]) ?_
    refine Ops.clearK 0 rfl rfl (by split <;> omega) rfl (wrs_len D) (by omega) sWrs (by decide) ?_
    (refine Qj (hK _ _ (Qz (Qy ?_))); clear hK K; refine Qx (fun K hK => ?_); refine Qq rfl rfl rfl ?_; refine Qq rfl rfl rfl ?_)
    refine Y1 D.length rfl rfl rfl rfl sWrs (by omega) rfl ?_
    (refine Qv rfl rfl rfl ?_; refine Qj (hK _ _ (Qz (Q0 (Q9 (QY (QY (Q9 (QY ?_)))))))); clear hK K)
    refine Fin.link 2 0 rfl rfl ?_
    refine Y5 rfl rfl rfl
end Go.Proofs.YtojkdfilabmafaaGreat
namespace Go.Own
variable {P : Program} {n : Nat} {S : BSet} {w0 : World} {B0 : BL} {fx : List Nat} {ρ0 : Nat → Value} {α : Type} {J : α → Prop} {R : α → Sl} {B1 : α → BL} {L : AL} {B : BL}
end Go.Own
namespace Go.Proofs.YtojkdfilabmafaaGreat
open Go.Own Go.Limbs
attribute [local irreducible] St Ops Go.Own.Fin Ok OkB OkN OkT OkL OkF OkM
abbrev Stm := Tk × Int
abbrev stmI (s : Stm) : List Int := [s.1.va, (s.1.ds.val : Int), s.1.pr, s.2]
abbrev stmE (s : Stm) : Value := Go.Own.encI ([.i64, .u32, .i64] ++ [.i64]) (stmI s)
abbrev stmV (s : Stm) : List Value := [.int .i64 s.1.va, .int .u32 (s.1.ds.val : Int), .int .i64 s.1.pr, .int .i64 s.2]
abbrev stmCs (s : Stm) : List CT := [intC s.1.va, adrF s.1.ds, intC s.1.pr, intC s.2]
theorem stmI_inj (a b : Stm) (h : stmI a = stmI b) : a = b := by
  obtain ⟨⟨a1, a2, a3⟩, a4⟩ := a
  obtain ⟨⟨b1, b2, b3⟩, b4⟩ := b
  simp only [List.cons.injEq, and_true, Int.ofNat_inj, Fin.val_inj] at h
  obtain ⟨h1, h2, h3, h4⟩ := h
  rw [h1, h2, h3, h4]
theorem uMOwn : Tryz.prog.underlying 152 = some (.map 123 24) := Tryz.underlying152
theorem z0Rss (w : World) : (zeroValue 24).run Tryz.prog w = .ok (.slice none 0 0) w := Zy (by kernel_rfl) w
theorem z0Ads (w : World) : (zeroValue 93).run Tryz.prog w = .ok (.slice none 0 0) w := Zy (by kernel_rfl) w
abbrev tkE (t : Tk) : Value := Go.Own.encI [.i64, .u32, .i64] (tkI t)
abbrev tkVs (t : Tk) : List Value := [.int .i64 t.va, .int .u32 (t.ds.val : Int), .int .i64 t.pr]
abbrev OwM := List (Tk × List Rs)
def owF (l : List Rs) : OwM := (trsF l).foldl (fun m t => ins m t (ofF l t)) []
abbrev owM (m : OwM) : List (Value × CT) := kvs tkE rssC m
abbrev adsC (l : List (Fin 4294967296)) : CT := .fr (sliceT 1 (l.map fun x => [adrF x]))
abbrev KnM := List (Stm × List (Fin 4294967296))
abbrev knM (m : KnM) : List (Value × CT) := kvs stmE adsC m
theorem owF_look (l : List Rs) (t : Tk) : (look1 (owF l) t).getD [] = ofF l t := by
  have key : ∀ (q : List Tk) (m : OwM), look1 (q.foldl (fun m t => ins m t (ofF l t)) m) t = if t ∈ q then some (ofF l t) else look1 m t := by
    intro q
    induction q with
    | nil => intro m; rw [if_neg (by simp)]; rfl
    | cons x q ih =>
      intro m
      rw [List.foldl_cons, ih, look1_ins]
      by_cases h : t ∈ q
      · rw [if_pos h, if_pos (List.mem_cons_of_mem _ h)]
      · rw [if_neg h]
        by_cases e : t = x
        · subst e; rw [if_pos rfl, if_pos (List.mem_cons_self ..)]
        · rw [if_neg e, if_neg (fun hm => (List.mem_cons.1 hm).elim e h)]
  unfold owF
  rw [key]
  by_cases h : t ∈ trsF l
  · rw [if_pos h]; rfl
  · rw [if_neg h]
    show [] = ofF l t
    unfold ofF
    symm
    refine List.filter_eq_nil_iff.2 fun r hr => ?_
    intro he
    refine h ?_
    have hm := ((sd_spec ordR (l.filter okR)).2 r).1 hr
    exact ((sd_spec ordT ((l.filter okR).map trOf)).2 t).2 (List.mem_map.2 ⟨r, hm, of_decide_eq_true he⟩)
def knOk (l : List Rs) (m : KnM) : Prop := ∀ s p, look1 m s = some p → p = pathF (ofF l s.1) s.2
end Go.Proofs.YtojkdfilabmafaaGreat
namespace Go.Own
open Go.RowKit
variable {X : Ctx} {L : AL} {B : BL} {ops : Array Oper} {K : Act → World → Prop}
end Go.Own
namespace Go.Proofs.YtojkdfilabmafaaGreat
open Go.Own
attribute [local irreducible] St Ops Go.Own.Fin Ok OkB OkN OkT OkL OkF wpR
abbrev Ad := Fin 4294967296
theorem sAdrs : SlcT Tryz.prog 93 35 1 4 (.int .u32 0) := SlcT.of Tryz.underlying93 (by kernel_rfl) rfl (by decide)
abbrev zNet : Value := .agg #[.int .i64 0, .int .u32 0, .int .i64 0, .slice none 0 0, .int .u32 0]
abbrev adrsC (p : List Ad) : CT := .fr (sliceT 1 (p.map fun x => [adrF x]))
def adrs (p : List Ad) : List CT := p.map adrF
theorem adrs_frozen (e : Nat) (p : List Ad) : (Ent.row e 1 (adrs p)).frozen (sliceT 1 (p.map fun x => [adrF x])) :=
  ⟨p.map fun x => [adrF x], (flat_one adrF p).symm, by simp, by decide, rfl⟩
theorem adrs_at {p : List Ad} {j : Int} (h0 : 0 ≤ j) (h : j < (p.length : Int)) : (p.map fun x => [adrF x])[j.toNat]? = some [adrF (p.getD j.toNat 0)] := by
  have hl : j.toNat < p.length := by omega
  rw [List.getElem?_map, List.getElem?_eq_getElem hl, List.getD_eq_getElem?_getD, List.getElem?_eq_getElem hl]; rfl
abbrev pthsC (ps : List (List Ad)) : CT := .fr (sliceT 1 (ps.map fun p => [adrsC p]))
def pths (ps : List (List Ad)) : List CT := ps.map adrsC
structure Nt where
  va : Int
  ds : Ad
  pr : Int
  ps : List (List Ad)
  la : Ad
abbrev ntCs (q : Nt) : List CT := [intC q.va, adrF q.ds, intC q.pr, pthsC q.ps, adrF q.la]
structure NtIn (q : Nt) : Prop where
  v0 : 0 ≤ q.va
  v1 : q.va < 2
  d0 : q.ds ≠ 0
  p0 : q.pr = 17 ∨ q.pr = 1 ∨ q.pr = 6
  a0 : q.la ≠ 0
  l0 : 1 ≤ q.ps.length
  l1 : q.ps.length ≤ 3
  pl : ∀ p ∈ q.ps, 1 ≤ p.length ∧ p.length ≤ 3
def nts (l : List Nt) : List CT := (l.map ntCs).flatten
end Go.Proofs.YtojkdfilabmafaaGreat
namespace Go.Proofs.YtojkdfilabmafaaGreat
open Go.Own Go.Limbs Go.Shelf
open Go.Sort hiding Ok
attribute [local irreducible] St Ops Go.Own.Fin Ok OkB OkN OkT OkL OkF
def wsG : _root_.Fin 4294967296 → List (_root_.Fin 4294967296) → List Wr
  | _, [] => []
  | p, a :: l => (p, a) :: wsG a l
theorem wsG_len : ∀ (l : List (_root_.Fin 4294967296)) (p : _root_.Fin 4294967296), (wsG p l).length = l.length
  | [], _ => rfl
  | a :: l, p => by rw [wsG, List.length_cons, wsG_len l a, List.length_cons]
def pvA (p : List (_root_.Fin 4294967296)) (i : Nat) : _root_.Fin 4294967296 := if i = 0 then 0 else p.getD (i - 1) 0
theorem wsG_snoc : ∀ (l : List (_root_.Fin 4294967296)) (q a : _root_.Fin 4294967296), wsG q (l ++ [a]) = wsG q l ++ [(if l = [] then q else l.getD (l.length - 1) 0, a)]
  | [], q, a => rfl
  | b :: l, q, a => by
    show (q, b) :: wsG b (l ++ [a]) = _
    rw [wsG_snoc l b a]
    cases l with
    | nil => rfl
    | cons c l =>
      show _ = (q, b) :: (wsG b (c :: l) ++ [(if b :: c :: l = [] then q else (b :: c :: l).getD ((b :: c :: l).length - 1) 0, a)])
      rw [if_neg (by simp), if_neg (by simp)]
      rfl
def wsO (p : List (_root_.Fin 4294967296)) : List Wr × Bool := if p.all (fun a => decide (a ≠ 0)) then (wsG 0 p, true) else ([], false)
theorem gowires : InGo Tryz.prog 88 := InGo.of Tryz.func88 rfl (by decide)
set_option maxHeartbeats 8000000 in
theorem wires_ok (p : List (_root_.Fin 4294967296)) (hl : p.length ≤ 1000000) : Ok Tryz.prog 88 [adsC p] (.fr (tupT [wrsC (wsO p).1, boolC (wsO p).2])) := by
  refine Ok.enter Tryz.func88 rfl _ Tryz.ntmps88 rfl ?_
  intro S w
  (refine Qy (Qx fun K hK => ?_); refine Qv rfl rfl rfl ?_; refine Qv rfl rfl rfl ?_; refine Qj (hK _ _ (Qz (Qy ?_))); clear hK K; refine Qx (fun K hK => ?_); refine Qv rfl rfl rfl ?_; refine Qj (hK _ _ (Qz (Qy ?_))); clear hK K; refine Qx (fun K hK => ?_); refine Qv rfl rfl rfl ?_; refine Qj (hK _ _ (Qz (Qy (Qy ?_)))); clear hK K; refine Qx (fun K hK => ?_); refine Qq rfl rfl rfl ?_; refine Qh rfl rfl (by with_reducible first | exact sTks.und | exact sWrs.und | exact sIks.und | exact sAdrs.und) (List.length_map ..) rfl ?_; refine Qq rfl rfl rfl ?_; refine Qj (hK _ _ (Qz (Q5 ?_))); clear hK K)
  refine Zo 4 0 37 2 rfl rfl rfl ?_
  refine Qs (α := Nat) (fun i => i ≤ p.length ∧ ∀ a ∈ p.take i, a ≠ 0)
    (fun i => [(4, .own 0), (5, .ct (adrF (pvA p i))), (8, .ct (adsC p)), (9, .ct (intC p.length)), (10, .ct (intC i))])
    (fun i => [(0, .row 37 2 (wrs (wsG 0 (p.take i))))]) (fun i => p.length - i) 0 ⟨Nat.zero_le _, by simp⟩ (by exact Qu rfl ⟨rfl, rfl, rfl, rfl, rfl, trivial⟩) ?_
  intro i ⟨hi, hnz⟩
  try dsimp only at hi hnz ⊢
  (refine Qy (Qx fun K hK => ?_); refine Qk ilss rfl rfl rfl rfl ?_; refine Qj (hK _ _ (Qz (Qy ?_))); clear hK K)
  refine Q2 rfl (fun h => ?_) (fun h => ?_)
  rotate_left
  · rw [List.take_of_length_le (by omega)] at hnz ⊢
    have e : wsO p = (wsG 0 p, true) := if_pos (List.all_eq_true.2 fun a ha => decide_eq_true (hnz a ha))
    rw [e]
    (refine Qo (Qz (Qy (Qx fun K hK => ?_))); refine Qq rfl rfl rfl ?_; refine Qv rfl rfl rfl ?_; refine Qv rfl rfl rfl ?_; refine Qj (hK _ _ (Qz (Q0 ?_))); clear hK K)
    refine YY 0 _ rfl (wrs_frozen _ _) noBor_sub ?_
    refine QU [_, _] rfl (QQ rfl (QQ rfl QZ)) rfl rfl
  have e2 : (i : Int).toNat = i := Int.toNat_natCast i
  have hs : p.take (i + 1) = p.take i ++ [p.getD i 0] := by
    rw [List.take_add_one, List.getElem?_eq_getElem (by omega), List.getD_eq_getElem?_getD, List.getElem?_eq_getElem (by omega)]; rfl
  have hw : wsG 0 (p.take (i + 1)) = wsG 0 (p.take i) ++ [(pvA p i, p.getD i 0)] := by
    rw [hs, wsG_snoc]
    congr 2
    unfold pvA
    by_cases h0 : i = 0
    · subst h0; rfl
    · rw [if_neg (fun h => by have := congrArg List.length h; rw [List.length_take, List.length_nil] at this; omega), if_neg h0, List.length_take, Nat.min_eq_left hi, List.getD_eq_getElem?_getD, List.getElem?_take_of_lt (by omega), ← List.getD_eq_getElem?_getD]
  have hp : pvA p (i + 1) = p.getD i 0 := rfl
  have hwl : (wsG 0 (p.take i)).length = i := by rw [wsG_len, List.length_take]; omega
  have hmem : p.getD i 0 ∈ p := by rw [List.getD_eq_getElem?_getD, List.getElem?_eq_getElem (by omega)]; exact List.getElem_mem _
  (refine QK (Qz (Qy (Q5 (Qy (Qx fun K hK => ?_))))))
  refine Xz rfl rfl rfl (by with_reducible exact sAdrs) (by omega) (adrs_at (by omega) (by omega)) rfl ?_
  rw [e2]
  generalize p.getD i 0 = a at hs hw hp hmem
  generalize pvA p i = b at hw
  generalize wsG 0 (p.take i) = ws at hw hwl ⊢
  refine X3 rfl rfl rfl (by with_reducible exact lAddr) rfl ?_
  (refine Qv rfl rfl rfl ?_; refine Qj (hK _ _ (Qz (Qy (Qy ?_)))); clear hK K; refine Qx (fun K hK => ?_); refine Qq rfl rfl rfl ?_; refine Qk ieql rfl rfl rfl rfl ?_; refine Qj (hK _ _ (Qz ?_)); clear hK K)
  refine Q2 rfl (fun h2 => ?_) (fun h2 => ?_)
  · have h2 : a = 0 := _root_.Fin.ext (by have e0 : ((0 : _root_.Fin 4294967296).val) = 0 := rfl; omega)
    have e : wsO p = ([], false) := if_neg (by rw [List.all_eq_true]; exact fun h => of_decide_eq_true (h a hmem) h2)
    rw [e]
    (refine Qy (Qx fun K hK => ?_); refine Qv rfl rfl rfl ?_; refine Qv rfl rfl rfl ?_; refine Qj (hK _ _ (Qz (Q0 (QY (Q9 (QY (QY (Q9 (QY ?_))))))))); clear hK K)
    refine QU [_, _] rfl (Xa Y3 (QQ rfl (QQ rfl QZ))) rfl rfl
  have h2 : a ≠ 0 := fun h => h2 (by rw [h]; rfl)
  (refine QK (Qz (Qy (Qx fun K hK => ?_))); refine Qq rfl rfl rfl ?_; refine Qq rfl rfl rfl ?_; refine Qq rfl rfl rfl ?_)
  refine Qp rfl (by with_reducible exact bWire) rfl (.one rfl rfl rfl rfl (.one rfl rfl rfl rfl .nil)) rfl ?_
  refine Zt (n := 2) rfl rfl (by with_reducible exact sWrs) rfl rfl (by decide) rfl ?_
  refine Qt ws.length (wrs (ws ++ [(b, a)])) rfl rfl rfl rfl (by with_reducible exact sWrs) (wrs_len ws) rfl (by omega) (by omega) (wrs_snoc ws (b, a)) rfl ?_
  (refine Qv rfl rfl rfl ?_; refine Qj (hK _ _ (Qz ?_)); clear hK K; refine Qx (fun K hK => ?_); refine Qq rfl rfl rfl ?_; refine Qv rfl rfl rfl ?_; refine Qj (hK _ _ (Qz ?_)); clear hK K; refine Qx (fun K hK => ?_); refine Qk (iadd (by omega) (by omega)) rfl rfl rfl rfl ?_; refine Qq rfl rfl rfl ?_; refine Qj (hK _ _ (Q7 ?_)); clear hK K)
  refine Qb (i + 1) (by omega) ⟨by omega, fun x hx => ?_⟩ (by rw [hw, hp]; exact Qu rfl ⟨rfl, rfl, rfl, rfl, by simp only [Int.natCast_add]; rfl, trivial⟩)
  rw [hs] at hx
  rcases List.mem_append.1 hx with hx | hx
  · exact hnz x hx
  · rw [List.mem_singleton] at hx; rw [hx]; exact h2
theorem goDcmp : InGo Tryz.prog 50 := InGo.of Tryz.func50 rfl (by decide)
theorem Dcmp_ok (a b : Wr) : Ok Tryz.prog 50 [wrC a, wrC b] (intC (cmpW a b)) := by
  have e0 : cmpW a b = firstN [cmp3 a.1.val b.1.val, cmp3 a.2.val b.2.val] := by
    unfold cmpW wrI
    simp only [cmpL, firstN]
  rw [e0]
  clear e0
  have h1 := cmA_ok (a.1.val : Int) (b.1.val : Int)
  have h2 := cmA_ok (a.2.val : Int) (b.2.val : Int)
  have hO := Or_ok [cmp3 a.1.val b.1.val, cmp3 a.2.val b.2.val] (by simp)
  generalize cmp3 (a.1.val : Int) (b.1.val : Int) = c1 at h1 hO ⊢
  generalize cmp3 (a.2.val : Int) (b.2.val : Int) = c2 at h2 hO ⊢
  refine Ok.enter Tryz.func50 rfl _ Tryz.ntmps50 rfl ?_
  intro S w
  (refine Qy (Qx fun K hK => ?_); refine XX 0 rfl rfl rfl rfl rfl rfl rfl ?_; refine XX 1 rfl rfl rfl rfl rfl rfl rfl ?_; refine Qv rfl rfl rfl ?_; refine Qj (hK _ _ (Qz (Qy ?_))); clear hK K)
  refine Xw (by with_reducible exact mixed) 13 (.p 0 (.p 2 (.p 5 (.p 7 (.f 1 (.f 3 (.f 6 (.f 8 (.m 4 (.m 9 (.m 10 (.m 11 (.p 12 .done))))))))))))) (by kernel_rfl) (fun K hK => ?_)
  (refine QJ rfl rfl rfl (by with_reducible first | exact fTk0 | exact fTk1 | exact fTk2 | exact fWr0 | exact fWr1 | exact fTrav0 | exact fTrav1 | exact fStm0 | exact fStm1 | exact fCn0 | exact fCn1 | exact fCn2 | exact fCn3 | exact fCs0 | exact fCs1) rfl ?_; refine QJ rfl rfl rfl (by with_reducible first | exact fTk0 | exact fTk1 | exact fTk2 | exact fWr0 | exact fWr1 | exact fTrav0 | exact fTrav1 | exact fStm0 | exact fStm1 | exact fCn0 | exact fCn1 | exact fCn2 | exact fCn3 | exact fCs0 | exact fCs1) rfl ?_; refine QJ rfl rfl rfl (by with_reducible first | exact fTk0 | exact fTk1 | exact fTk2 | exact fWr0 | exact fWr1 | exact fTrav0 | exact fTrav1 | exact fStm0 | exact fStm1 | exact fCn0 | exact fCn1 | exact fCn2 | exact fCn3 | exact fCs0 | exact fCs1) rfl ?_; refine QJ rfl rfl rfl (by with_reducible first | exact fTk0 | exact fTk1 | exact fTk2 | exact fWr0 | exact fWr1 | exact fTrav0 | exact fTrav1 | exact fStm0 | exact fStm1 | exact fCn0 | exact fCn1 | exact fCn2 | exact fCn3 | exact fCs0 | exact fCs1) rfl ?_; refine QX rfl rfl rfl rfl rfl (by with_reducible first | exact lInt | exact lAddr | exact lBool1 | exact lRess) rfl ?_; refine QX rfl rfl rfl rfl rfl (by with_reducible first | exact lInt | exact lAddr | exact lBool1 | exact lRess) rfl ?_; refine QX rfl rfl rfl rfl rfl (by with_reducible first | exact lInt | exact lAddr | exact lBool1 | exact lRess) rfl ?_; refine QX rfl rfl rfl rfl rfl (by with_reducible first | exact lInt | exact lAddr | exact lBool1 | exact lRess) rfl ?_)
  refine QV gocmA h1 rfl rfl rfl rfl ?_
  refine QV gocmA h2 rfl rfl rfl rfl ?_
  refine Ops.litI [c1, c2] rfl rfl (by with_reducible exact sInts) rfl ⟨rfl, rfl, rfl, rfl, trivial⟩ (by decide) rfl ?_
  refine QV goOr hO rfl rfl rfl rfl ?_
  (refine Qv rfl rfl rfl ?_; refine Qj (hK _ _ (Qz (Q0 ?_))); clear hK K)
  refine QU [_] rfl (QQ rfl QZ) rfl rfl
abbrev cmpDV : CT := .ex (.func (.func 50) #[] #[])
theorem SortD_ok (l : List Wr) (hl : l.length < 4611686018427387904) : OkL Tryz.prog 61 37 2 (wrs l) [cmpDV] unitC (wrs (l.mergeSort fun x y => !(ltOf cmpW) y x)) :=
  sortFunc_L laySortW (enc := wr2) (k := 2) (cf := cmpW) (g := 50) (by decide) Tryz.isAgg37 Tryz.sizeOf37 (fun _ => rfl) (fun x v hv => one_two x v hv)
    ordW.swo ordW.tot goDcmp Dcmp_ok 37 l hl
end Go.Proofs.YtojkdfilabmafaaGreat
namespace Go.Proofs.YtojkdfilabmafaaGreat
open Go.Own Go.Limbs
attribute [local irreducible] St Ops Go.Own.Fin Ok OkB OkN OkT OkL OkF
abbrev spE (s : Sp) : Value := Go.Own.encI [.i64, .i64] [s.1, s.2]
theorem eqSp : EqS Tryz.prog 228 [.i64, .i64] := ⟨by kernel_rfl, by kernel_rfl, by kernel_rfl, by kernel_rfl⟩
theorem Xi : KeyT Tryz.prog 228 spE := eqSp.flat.key (fun s : Sp => [s.1, s.2]) (fun _ => rfl) (fun a b h => by
  obtain ⟨a1, a2⟩ := a; obtain ⟨b1, b2⟩ := b
  simp only [List.cons.injEq, and_true] at h
  rw [h.1, h.2])
theorem uMAd : Tryz.prog.underlying 221 = some (.map 228 35) := Tryz.underlying221
theorem uMSt : Tryz.prog.underlying 222 = some (.map 228 3) := Tryz.underlying222
theorem lMAd : Ld1 Tryz.prog 221 := Ld1.of _ Tryz.underlying221 rfl
theorem lMSt : Ld1 Tryz.prog 222 := Ld1.of _ Tryz.underlying222 rfl
theorem fV0 : fldInfo Tryz.prog 224 0 = some (0, some 1) := by kernel_rfl
theorem fV1 : fldInfo Tryz.prog 224 1 = some (1, some 1) := by kernel_rfl
theorem fV2 : fldInfo Tryz.prog 224 2 = some (2, some 1) := by kernel_rfl
theorem lView : LdN Tryz.prog 224 3 := LdN.of _ Tryz.underlying224 rfl (by kernel_rfl)
theorem szView : (Tryz.prog.info? 224).map (·.size) = some 3 := by kernel_rfl
theorem zvView : (Tryz.prog.info? 224).map (·.zero) = some (some (.agg #[.int .i64 0, .map none, .map none])) := by kernel_rfl
theorem bView : bInfo Tryz.prog 224 = some (.agg #[.int .i64 0, .map none, .map none], [(0, some 1), (1, some 1), (2, some 1)]) := by kernel_rfl
theorem Y9 : LdN Tryz.prog 228 2 := LdN.of _ Tryz.underlying228 rfl (by kernel_rfl)
theorem szSpot : (Tryz.prog.info? 228).map (·.size) = some 2 := by kernel_rfl
theorem zvSpot : (Tryz.prog.info? 228).map (·.zero) = some (some (.agg #[.int .i64 0, .int .i64 0])) := by kernel_rfl
theorem bSpot : bInfo Tryz.prog 228 = some (.agg #[.int .i64 0, .int .i64 0], [(0, some 1), (1, some 1)]) := by kernel_rfl
theorem z0Int (w : World) : (zeroValue 3).run Tryz.prog w = .ok (.int .i64 0) w := Zy (by kernel_rfl) w
theorem z0Adr (w : World) : (zeroValue 35).run Tryz.prog w = .ok (.int .u32 0) w := Zy (by kernel_rfl) w
abbrev adM (m : AdM) : List (Value × CT) := kvs spE adrF m
abbrev stM (m : StM) : List (Value × CT) := kvs spE intC m
abbrev viewC (e : Int) (m : AdM × StM) : CT := .fr (aggT [intC e, .fr (mapT (adM m.1)), .fr (mapT (stM m.2))])
theorem goHas : InGo Tryz.prog 151 := InGo.of Tryz.func151 rfl (by decide)
theorem Has_ok (e fl tt : Int) (m : AdM × StM) : Ok Tryz.prog 151 [viewC e m, intC fl, intC tt] (boolC (hasS m.2 fl tt)) := by
  have e0 : hasS m.2 fl tt = (decide ((look1 m.2 (fl, tt)).getD 0 = 2) || decide ((look1 m.2 (fl, tt)).getD 0 = 1)) := rfl
  refine Ok.enter Tryz.func151 J _ Tryz.ntmps151 J ?_
  intro S w; refine Qy (Qx fun K hK => ?_); refine XX 0 J J J J J J J (Qv J J J (Qj (hK _ _ (Qz (Qy ?_))))); clear hK K; refine Qx (fun K hK => ?_); refine QJ J J J fV2 J (QX J J J J J lMSt J (Qq J J J (Qq J J J (Qp J bSpot J (.one J J J J (.one J J J J .nil)) J (Ops.lookF (cv := intC) (enc := spE) 0 (fl, tt) J J J (KeyIs.agg (us := [.int .i64 fl, .int .i64 tt]) J) uMSt z0Int (fun _ _ => rfl) Xi J ?_))))); generalize (look1 m.2 (fl, tt)).getD 0 = q at e0; refine Qv J J J (Qj (hK _ _ (Qz (Qy ?_)))); clear hK K; refine Qx (fun K hK => ?_); refine Qq J J J (Qk ieql J J J J (Qq J J J (Qf 16 (p := q = 2) J (fun h => ?_) (fun h => ?_))))
  · refine Qw J J J (Qw J J J (Q3 J J J J (Qv J J J (Qj (hK _ _ (Qz (Q0 ?_))))))); clear hK K; refine QU [_] rfl (QQ J QZ) (by rw [e0, decide_eq_true h, Bool.true_or]; rfl) J
  · refine Qq J J J (Qk ieql J J J J (Q6 J J J J (Qv J J J (Qj (hK _ _ (Qz (Q0 ?_))))))); clear hK K; refine QU [_] rfl (QQ J QZ) (by rw [e0, decide_eq_false h, Bool.false_or]; rfl) J
theorem goLook : InGo Tryz.prog 150 := InGo.of Tryz.func150 rfl (by decide)
set_option maxHeartbeats 8000000 in
theorem Look_ok (l : List Rs) (hl : l.length ≤ 100000) : Ok Tryz.prog 150 [rssC l] (viewC (endF l) (lookG l)) := by
  have hE := End_ok l hl; have e0 : lookG l = l.foldl (lookS (endF l)) ([], []) := rfl; rw [e0]; clear e0; generalize endF l = e at hE ⊢
  refine Ok.enter Tryz.func150 J _ Tryz.ntmps150 J ?_
  intro S w; refine Qy (Qx fun K hK => ?_); refine Qi 0 J J zvView J J J (Qj (hK _ _ (Qz (Qy ?_)))); clear hK K; refine Qx (fun K hK => ?_); refine Qq J J J (QV goEnd hE J J J J (Ops.mkMap 8 J J J J J (fun v1 hv1 => ?_))); refine Ops.mkMap 9 J J J J J (fun v2 hv2 => ?_); refine Qp J bView J (.one J J J J (.one J J hv1 J (.one J J hv2 J .nil))) J (Qi 1 J J zvView J J J (Qd 3 J J J J (by show (true && (Value.oneCell' v1 && (Value.oneCell' v2 && true))) = true; rw [hv1, hv2]; rfl) szView J J ?_)); refine Qj (hK _ _ (Qz (Qy (Qy ?_)))); clear hK K; refine Qx (fun K hK => ?_); refine Qq J J J (Qh J J sRes.und (List.length_map ..) J (Qq J J J (Qj (hK _ _ (Qz (Q5 ?_)))))); clear hK K
  refine Qs (α := Nat) (fun i => i ≤ l.length)
    (fun i => [(2, .own 0), (3, .own 1), (13, .ct (rssC l)), (14, .ct (intC l.length)), (15, .ct (intC i))])
    (fun i => [(1, .box 224 [intC e, .ex v1, .ex v2]), (9, .mpx v2 (stM ((l.take i).foldl (lookS e) ([], [])).2)), (8, .mpx v1 (adM ((l.take i).foldl (lookS e) ([], [])).1)), (0, .box 224 [intC 0, .ex (.map none), .ex (.map none)])])
    (fun i => l.length - i) 0 (Nat.zero_le _) (by exact Qu J ⟨rfl, rfl, rfl, rfl, rfl, trivial⟩) ?_
  intro i hi
  try dsimp only at hi ⊢
  refine Qy (Qx fun K hK => ?_); refine Qk ilss J J J J (Qj (hK _ _ (Qz (Qy ?_)))); clear hK K; refine Q2 J (fun h => ?_) (fun h => ?_)
  · have e2 : (i : Int).toNat = i := Int.toNat_natCast i; have hs := foldl_take (lookS e) ([], []) (z := rs0) (l := l) (i := i) (by omega); generalize (l.take i).foldl (lookS e) ([], []) = m at hs ⊢
    have next : ∀ m' : AdM × StM, lookS e m (l.getD i rs0) = m' → (l.take (i + 1)).foldl (lookS e) ([], []) = m' := fun m' h => by rw [hs, h]
    clear hs; refine QK (Qz (Qy ?_))
    refine Y4 (α := AdM × StM) (fun q => lookS e m (l.getD i rs0) = q) (fun _ => [(2, .own 0), (3, .own 1), (13, .ct (rssC l)), (14, .ct (intC l.length)), (15, .ct (intC i))])
      (fun q => [(1, .box 224 [intC e, .ex v1, .ex v2]), (9, .mpx v2 (stM q.2)), (8, .mpx v1 (adM q.1)), (0, .box 224 [intC 0, .ex (.map none), .ex (.map none)])]) (fun q hq => ?_) (fun KN hM => ?_)
    · have en := next q hq; refine Qx (fun K hK => ?_)
      refine Qk (iadd (by omega) (by omega)) J J J J ?_
      refine Qq J J J (Qj (hK _ _ (Q7 ?_))); clear hK K; refine Qb (i + 1) (by omega) (by omega) (by rw [en]; exact Qu J ⟨rfl, rfl, rfl, rfl, by simp only [Int.natCast_add]; rfl, trivial⟩)
    clear next; refine Q5 (Qy (Qx (fun K hK => ?_)))
    refine Xz J J J sRes (by omega) (Y6 (by omega) (by omega)) J ?_
    rw [e2]; generalize l.getD i rs0 = c at hM ⊢; refine Xe (n := 17) J J J lRes J J (Qi 2 J J zvRes J J J (Qd 17 J J J J J szRes J J (Qj (hK _ _ ?_)))); clear hK K
    refine Qz ?_
    have hU := Usable_ok c
    have es : lookS e m c = if usR c = false ∨ (0 < e ∧ e < c.tt) then m
      else if c.an = false then (m.1, ins m.2 (c.fl, c.tt) (max ((look1 m.2 (c.fl, c.tt)).getD 0) 1))
      else if (look1 m.2 (c.fl, c.tt)).getD 0 ≤ 1 then (ins m.1 (c.fl, c.tt) c.fr, ins m.2 (c.fl, c.tt) 2)
      else if (look1 m.2 (c.fl, c.tt)).getD 0 = 2 ∧ (look1 m.1 (c.fl, c.tt)).getD 0 ≠ c.fr then (ins m.1 (c.fl, c.tt) 0, ins m.2 (c.fl, c.tt) 3)
      else m := rfl
    generalize usR c = ub at hU es; refine Qy (Qy ?_)
    refine Y4 (α := Bool) (fun b => b = true ↔ (ub = false ∨ (0 < e ∧ e < c.tt)))
      (fun b => [(2, .own 0), (3, .own 1), (5, .own 2), (13, .ct (rssC l)), (14, .ct (intC l.length)), (15, .ct (intC i)), (33, .ct (boolC b))])
      (fun _ => [(2, .box 47 (rsCs c)), (1, .box 224 [intC e, .ex v1, .ex v2]), (9, .mpx v2 (stM m.2)), (8, .mpx v1 (adM m.1)), (0, .box 224 [intC 0, .ex (.map none), .ex (.map none)])]) (fun b hb => ?_) (fun KK hN => ?_)
    rotate_left
    · refine Qx (fun K hK => ?_); refine Qe (n := 17) J J J J J lRes J (QV goUsable hU J J J J (Xx J J J (Qq J J J (Xc 22 (b := !ub) J (fun h1 => ?_) (fun h1 => ?_)))))
      · refine Qw J J J (Qw J J J (Qw J J J (Qw J J J (Qw J J J (Qw J J J (Qw J J J (Qw J J J (Qw J J J (Qw J J J (Q3 J J J J (Qj (hK _ _ ?_)))))))))))); clear hK K; exact Xv hN true (iff_of_true J (.inl (by simpa using h1))) (by exact Qu J ⟨rfl, rfl, rfl, rfl, rfl, rfl, rfl, trivial⟩)
      · have hub : ub = true := by simpa using h1
        refine QJ J J J fV0 J (QX J J J J J lInt J (Qk igtr J J J J (Qq J J J (Qf 26 (p := 0 < e) J (fun h3 => ?_) (fun h3 => ?_)))))
        · refine QJ J J J fS7 J (QX J J J J J lInt J (QJ J J J fV0 J (QX J J J J J lInt J (Qk igtr J J J J (Q3 J J J J (Q6 J J J J (Qj (hK _ _ ?_)))))))); clear hK K; exact Xv hN (decide (e < c.tt)) (by rw [decide_eq_true_iff]; constructor; exact fun h => .inr ⟨h3, h⟩; exact fun h => h.elim (fun h => by rw [hub] at h; cases h) (·.2)) (by exact Qu J ⟨rfl, rfl, rfl, rfl, rfl, rfl, rfl, trivial⟩)
        · refine Qw J J J (Qw J J J (Qw J J J (Qw J J J (Qw J J J (Q6 J J J J (Q6 J J J J (Qj (hK _ _ ?_)))))))); clear hK K; exact Xv hN false (iff_of_false (by decide) (fun h => h.elim (fun h => by rw [hub] at h; cases h) (fun h => h3 h.1))) (by exact Qu J ⟨rfl, rfl, rfl, rfl, rfl, rfl, rfl, trivial⟩)
    cases b with
    | true =>
      have es : lookS e m c = m := by rw [es, if_pos (hb.1 J)]
      refine XZ J (Qo (Fin.thenExit (Fin.blockE ?_))); exact Xv hM _ es (Qc 2 (by exact Qu J ⟨rfl, rfl, rfl, rfl, rfl, trivial⟩))
    | false =>
      rw [if_neg (fun h => by have := hb.2 h; cases this)] at es; refine Xu J (QK (Qz (Qy (Qx fun K hK => ?_)))); refine QJ J J J fS6 J (QX J J J J J lInt J (QJ J J J fS7 J (QX J J J J J lInt J (Qp J bSpot J (.one J J J J (.one J J J J .nil)) J (Qi 3 J J zvSpot J J J (Qd 2 J J J J J szSpot J J (Qj (hK _ _ (Qz (Qy ?_)))))))))); clear hK K; refine Qx (fun K hK => ?_); refine QJ J J J fV2 J (QX J J J J J lMSt J (Qe (n := 2) J J J J J Y9 J (Ops.lookM (i := 9) (cv := intC) (enc := spE) 0 (c.fl, c.tt) J J J J (KeyIs.agg (us := [.int .i64 c.fl, .int .i64 c.tt]) J) uMSt z0Int (fun _ _ => rfl) Xi J ?_))); generalize (look1 m.2 (c.fl, c.tt)).getD 0 = kn at es ⊢; refine Qv J J J (Qj (hK _ _ (Qz (Q5 (Qy ?_))))); clear hK K; refine Qx (fun K hK => ?_); refine QJ J J J fS8 J (QX J J J J J lBool1 J (Xx J J J (Qv J J J (Qj (hK _ _ (Qz ?_)))))); clear hK K; refine X4 J (fun h1 => ?_) (fun h1 => ?_)
      · have h1' : c.an = false := by simpa using h1
        rw [if_pos h1'] at es; refine Qx (fun K hK => ?_); refine QJ J J J fV2 J (QX J J J J J lMSt J (Qe (n := 2) J J J J J Y9 J (Qq J J J (Ops.max2 J J J J (Xy (i := 9) (enc := spE) (cv := intC) (c.fl, c.tt) (max kn 1) J J J (KeyIs.agg (us := [.int .i64 c.fl, .int .i64 c.tt]) J) J uMSt Xi (Qj (hK _ _ (Ql (Ql ?_))))))))); clear hK K; exact Xv hM _ es (Qc 3 (Qc 2 (by exact Qu J ⟨rfl, rfl, rfl, rfl, rfl, trivial⟩)))
      · have h1' : c.an = true := by simpa using h1
        rw [if_neg (fun h => by rw [h1'] at h; cases h)] at es; refine Qy (Qx fun K hK => ?_); refine Qq J J J (Qk ileq J J J J (Qv J J J (Qj (hK _ _ (Qz ?_))))); clear hK K; refine Q2 J (fun h2 => ?_) (fun h2 => ?_)
        · rw [if_pos h2] at es; refine St.drawQ mixed [9, 10] (.p 0 (.p 3 (.p 6 (.p 7 (.f 1 (.f 2 (.m 4 (.m 5 (.m 8 (.a 9 (.a 10 .done .non) .non) (.a 9 (.f 8 (.a 10 .done .non)) .non)) (.m 8 (.m 5 (.a 9 (.a 10 .done .non) .non) (.a 9 (.f 5 (.a 10 .done .non)) .non)) (.a 9 (.f 5 (.f 8 (.a 10 .done .non))) .non))) (.m 5 (.m 4 (.m 8 (.a 9 (.a 10 .done .non) .non) (.a 9 (.f 8 (.a 10 .done .non)) .non)) (.m 8 (.m 4 (.a 9 (.a 10 .done .non) .non) (.a 9 (.f 4 (.a 10 .done .non)) .non)) (.a 9 (.f 4 (.f 8 (.a 10 .done .non))) .non))) (.m 8 (.m 4 (.m 5 (.a 9 (.a 10 .done .non) .non) (.a 9 (.f 5 (.a 10 .done .non)) .non)) (.m 5 (.m 4 (.a 9 (.a 10 .done .non) .non) (.a 9 (.f 4 (.a 10 .done .non)) .non)) (.a 9 (.f 4 (.f 5 (.a 10 .done .non))) .non))) (.a 9 (.f 4 (.f 5 (.f 8 (.a 10 .done .non)))) .non)))))))))) (by kernel_rfl) (fun K hK => ?_); refine Qr (QJ J J J fV2 J (Qj (Qr (QJ J J J fV1 J (Qj (Qr (QJ J J J fS11 J (Qj (Qr (Z4 J J fN0 J (Qj (Zv (QX J J J J J lMSt J (Qj (Zv (Qe (n := 2) J J J J J Y9 J (Qj (X1 ?_ ?_))))))))))))))))))
          · refine QX J J J J J lMAd J (Qj (X1 ?_ ?_))
            · refine Qe (n := 2) J J J J J Y9 J (Qj (X1 ?_ ?_))
              · refine QX J J J J J lAddr J (Qj (Qm ?_ Q8)); refine Xy (i := 9) (enc := spE) (cv := intC) (c.fl, c.tt) 2 J J J (KeyIs.agg (us := [.int .i64 c.fl, .int .i64 c.tt]) J) J uMSt Xi (Qj (Qm ?_ Q8)); refine Xy (i := 8) (enc := spE) (cv := adrF) (c.fl, c.tt) c.fr J J J (KeyIs.agg (us := [.int .i64 c.fl, .int .i64 c.tt]) J) J uMAd Xi (Qj (Xk (hK _ _ ?_))); refine Ql (Ql ?_); exact Xv hM _ es (Qc 3 (Qc 2 (by exact Qu J ⟨rfl, rfl, rfl, rfl, rfl, trivial⟩)))
              refine Qm ?_ Q8
              refine Xy (i := 9) (enc := spE) (cv := intC) (c.fl, c.tt) 2 J J J (KeyIs.agg (us := [.int .i64 c.fl, .int .i64 c.tt]) J) J uMSt Xi (Qj (Zv (QX J J J J J lAddr J (Qj (Qm ?_ Q8))))); refine Xy (i := 8) (enc := spE) (cv := adrF) (c.fl, c.tt) c.fr J J J (KeyIs.agg (us := [.int .i64 c.fl, .int .i64 c.tt]) J) J uMAd Xi (Qj (Xk (hK _ _ ?_))); refine Ql (Ql ?_); exact Xv hM _ es (Qc 3 (Qc 2 (by exact Qu J ⟨rfl, rfl, rfl, rfl, rfl, trivial⟩)))
            refine X1 ?_ ?_
            · refine QX J J J J J lAddr J (Qj (X1 ?_ ?_))
              · refine Qe (n := 2) J J J J J Y9 J (Qj (Qm ?_ Q8)); refine Xy (i := 9) (enc := spE) (cv := intC) (c.fl, c.tt) 2 J J J (KeyIs.agg (us := [.int .i64 c.fl, .int .i64 c.tt]) J) J uMSt Xi (Qj (Qm ?_ Q8)); refine Xy (i := 8) (enc := spE) (cv := adrF) (c.fl, c.tt) c.fr J J J (KeyIs.agg (us := [.int .i64 c.fl, .int .i64 c.tt]) J) J uMAd Xi (Qj (Xk (hK _ _ ?_))); refine Ql (Ql ?_); exact Xv hM _ es (Qc 3 (Qc 2 (by exact Qu J ⟨rfl, rfl, rfl, rfl, rfl, trivial⟩)))
              refine Qm ?_ Q8
              refine Xy (i := 9) (enc := spE) (cv := intC) (c.fl, c.tt) 2 J J J (KeyIs.agg (us := [.int .i64 c.fl, .int .i64 c.tt]) J) J uMSt Xi (Qj (Zv (Qe (n := 2) J J J J J Y9 J (Qj (Qm ?_ Q8))))); refine Xy (i := 8) (enc := spE) (cv := adrF) (c.fl, c.tt) c.fr J J J (KeyIs.agg (us := [.int .i64 c.fl, .int .i64 c.tt]) J) J uMAd Xi (Qj (Xk (hK _ _ ?_))); refine Ql (Ql ?_); exact Xv hM _ es (Qc 3 (Qc 2 (by exact Qu J ⟨rfl, rfl, rfl, rfl, rfl, trivial⟩)))
            refine Qm ?_ Q8
            refine Xy (i := 9) (enc := spE) (cv := intC) (c.fl, c.tt) 2 J J J (KeyIs.agg (us := [.int .i64 c.fl, .int .i64 c.tt]) J) J uMSt Xi (Qj (Zv (Qe (n := 2) J J J J J Y9 J (Qj (Zv (QX J J J J J lAddr J (Qj (Qm ?_ Q8)))))))); refine Xy (i := 8) (enc := spE) (cv := adrF) (c.fl, c.tt) c.fr J J J (KeyIs.agg (us := [.int .i64 c.fl, .int .i64 c.tt]) J) J uMAd Xi (Qj (Xk (hK _ _ ?_))); refine Ql (Ql ?_); exact Xv hM _ es (Qc 3 (Qc 2 (by exact Qu J ⟨rfl, rfl, rfl, rfl, rfl, trivial⟩)))
          refine X1 ?_ ?_
          · refine Qe (n := 2) J J J J J Y9 J (Qj (X1 ?_ ?_))
            · refine QX J J J J J lMAd J (Qj (X1 ?_ ?_))
              · refine QX J J J J J lAddr J (Qj (Qm ?_ Q8)); refine Xy (i := 9) (enc := spE) (cv := intC) (c.fl, c.tt) 2 J J J (KeyIs.agg (us := [.int .i64 c.fl, .int .i64 c.tt]) J) J uMSt Xi (Qj (Qm ?_ Q8)); refine Xy (i := 8) (enc := spE) (cv := adrF) (c.fl, c.tt) c.fr J J J (KeyIs.agg (us := [.int .i64 c.fl, .int .i64 c.tt]) J) J uMAd Xi (Qj (Xk (hK _ _ ?_))); refine Ql (Ql ?_); exact Xv hM _ es (Qc 3 (Qc 2 (by exact Qu J ⟨rfl, rfl, rfl, rfl, rfl, trivial⟩)))
              refine Qm ?_ Q8
              refine Xy (i := 9) (enc := spE) (cv := intC) (c.fl, c.tt) 2 J J J (KeyIs.agg (us := [.int .i64 c.fl, .int .i64 c.tt]) J) J uMSt Xi (Qj (Zv (QX J J J J J lAddr J (Qj (Qm ?_ Q8))))); refine Xy (i := 8) (enc := spE) (cv := adrF) (c.fl, c.tt) c.fr J J J (KeyIs.agg (us := [.int .i64 c.fl, .int .i64 c.tt]) J) J uMAd Xi (Qj (Xk (hK _ _ ?_))); refine Ql (Ql ?_); exact Xv hM _ es (Qc 3 (Qc 2 (by exact Qu J ⟨rfl, rfl, rfl, rfl, rfl, trivial⟩)))
            refine X1 ?_ ?_
            · refine QX J J J J J lAddr J (Qj (X1 ?_ ?_))
              · refine QX J J J J J lMAd J (Qj (Qm ?_ Q8)); refine Xy (i := 9) (enc := spE) (cv := intC) (c.fl, c.tt) 2 J J J (KeyIs.agg (us := [.int .i64 c.fl, .int .i64 c.tt]) J) J uMSt Xi (Qj (Qm ?_ Q8)); refine Xy (i := 8) (enc := spE) (cv := adrF) (c.fl, c.tt) c.fr J J J (KeyIs.agg (us := [.int .i64 c.fl, .int .i64 c.tt]) J) J uMAd Xi (Qj (Xk (hK _ _ ?_))); refine Ql (Ql ?_); exact Xv hM _ es (Qc 3 (Qc 2 (by exact Qu J ⟨rfl, rfl, rfl, rfl, rfl, trivial⟩)))
              refine Qm ?_ Q8
              refine Xy (i := 9) (enc := spE) (cv := intC) (c.fl, c.tt) 2 J J J (KeyIs.agg (us := [.int .i64 c.fl, .int .i64 c.tt]) J) J uMSt Xi (Qj (Zv (QX J J J J J lMAd J (Qj (Qm ?_ Q8))))); refine Xy (i := 8) (enc := spE) (cv := adrF) (c.fl, c.tt) c.fr J J J (KeyIs.agg (us := [.int .i64 c.fl, .int .i64 c.tt]) J) J uMAd Xi (Qj (Xk (hK _ _ ?_))); refine Ql (Ql ?_); exact Xv hM _ es (Qc 3 (Qc 2 (by exact Qu J ⟨rfl, rfl, rfl, rfl, rfl, trivial⟩)))
            refine Qm ?_ Q8
            refine Xy (i := 9) (enc := spE) (cv := intC) (c.fl, c.tt) 2 J J J (KeyIs.agg (us := [.int .i64 c.fl, .int .i64 c.tt]) J) J uMSt Xi (Qj (Zv (QX J J J J J lMAd J (Qj (Zv (QX J J J J J lAddr J (Qj (Qm ?_ Q8)))))))); refine Xy (i := 8) (enc := spE) (cv := adrF) (c.fl, c.tt) c.fr J J J (KeyIs.agg (us := [.int .i64 c.fl, .int .i64 c.tt]) J) J uMAd Xi (Qj (Xk (hK _ _ ?_))); refine Ql (Ql ?_); exact Xv hM _ es (Qc 3 (Qc 2 (by exact Qu J ⟨rfl, rfl, rfl, rfl, rfl, trivial⟩)))
          refine X1 ?_ ?_
          · refine QX J J J J J lAddr J (Qj (X1 ?_ ?_))
            · refine QX J J J J J lMAd J (Qj (X1 ?_ ?_))
              · refine Qe (n := 2) J J J J J Y9 J (Qj (Qm ?_ Q8)); refine Xy (i := 9) (enc := spE) (cv := intC) (c.fl, c.tt) 2 J J J (KeyIs.agg (us := [.int .i64 c.fl, .int .i64 c.tt]) J) J uMSt Xi (Qj (Qm ?_ Q8)); refine Xy (i := 8) (enc := spE) (cv := adrF) (c.fl, c.tt) c.fr J J J (KeyIs.agg (us := [.int .i64 c.fl, .int .i64 c.tt]) J) J uMAd Xi (Qj (Xk (hK _ _ ?_))); refine Ql (Ql ?_); exact Xv hM _ es (Qc 3 (Qc 2 (by exact Qu J ⟨rfl, rfl, rfl, rfl, rfl, trivial⟩)))
              refine Qm ?_ Q8
              refine Xy (i := 9) (enc := spE) (cv := intC) (c.fl, c.tt) 2 J J J (KeyIs.agg (us := [.int .i64 c.fl, .int .i64 c.tt]) J) J uMSt Xi (Qj (Zv (Qe (n := 2) J J J J J Y9 J (Qj (Qm ?_ Q8))))); refine Xy (i := 8) (enc := spE) (cv := adrF) (c.fl, c.tt) c.fr J J J (KeyIs.agg (us := [.int .i64 c.fl, .int .i64 c.tt]) J) J uMAd Xi (Qj (Xk (hK _ _ ?_))); refine Ql (Ql ?_); exact Xv hM _ es (Qc 3 (Qc 2 (by exact Qu J ⟨rfl, rfl, rfl, rfl, rfl, trivial⟩)))
            refine X1 ?_ ?_
            · refine Qe (n := 2) J J J J J Y9 J (Qj (X1 ?_ ?_))
              · refine QX J J J J J lMAd J (Qj (Qm ?_ Q8)); refine Xy (i := 9) (enc := spE) (cv := intC) (c.fl, c.tt) 2 J J J (KeyIs.agg (us := [.int .i64 c.fl, .int .i64 c.tt]) J) J uMSt Xi (Qj (Qm ?_ Q8)); refine Xy (i := 8) (enc := spE) (cv := adrF) (c.fl, c.tt) c.fr J J J (KeyIs.agg (us := [.int .i64 c.fl, .int .i64 c.tt]) J) J uMAd Xi (Qj (Xk (hK _ _ ?_))); refine Ql (Ql ?_); exact Xv hM _ es (Qc 3 (Qc 2 (by exact Qu J ⟨rfl, rfl, rfl, rfl, rfl, trivial⟩)))
              refine Qm ?_ Q8
              refine Xy (i := 9) (enc := spE) (cv := intC) (c.fl, c.tt) 2 J J J (KeyIs.agg (us := [.int .i64 c.fl, .int .i64 c.tt]) J) J uMSt Xi (Qj (Zv (QX J J J J J lMAd J (Qj (Qm ?_ Q8))))); refine Xy (i := 8) (enc := spE) (cv := adrF) (c.fl, c.tt) c.fr J J J (KeyIs.agg (us := [.int .i64 c.fl, .int .i64 c.tt]) J) J uMAd Xi (Qj (Xk (hK _ _ ?_))); refine Ql (Ql ?_); exact Xv hM _ es (Qc 3 (Qc 2 (by exact Qu J ⟨rfl, rfl, rfl, rfl, rfl, trivial⟩)))
            refine Qm ?_ Q8
            refine Xy (i := 9) (enc := spE) (cv := intC) (c.fl, c.tt) 2 J J J (KeyIs.agg (us := [.int .i64 c.fl, .int .i64 c.tt]) J) J uMSt Xi (Qj (Zv (QX J J J J J lMAd J (Qj (Zv (Qe (n := 2) J J J J J Y9 J (Qj (Qm ?_ Q8)))))))); refine Xy (i := 8) (enc := spE) (cv := adrF) (c.fl, c.tt) c.fr J J J (KeyIs.agg (us := [.int .i64 c.fl, .int .i64 c.tt]) J) J uMAd Xi (Qj (Xk (hK _ _ ?_))); refine Ql (Ql ?_); exact Xv hM _ es (Qc 3 (Qc 2 (by exact Qu J ⟨rfl, rfl, rfl, rfl, rfl, trivial⟩)))
          refine Qm ?_ Q8
          refine Xy (i := 9) (enc := spE) (cv := intC) (c.fl, c.tt) 2 J J J (KeyIs.agg (us := [.int .i64 c.fl, .int .i64 c.tt]) J) J uMSt Xi (Qj (Zv (QX J J J J J lMAd J (Qj (Zv (Qe (n := 2) J J J J J Y9 J (Qj (Zv (QX J J J J J lAddr J (Qj (Qm ?_ Q8))))))))))); refine Xy (i := 8) (enc := spE) (cv := adrF) (c.fl, c.tt) c.fr J J J (KeyIs.agg (us := [.int .i64 c.fl, .int .i64 c.tt]) J) J uMAd Xi (Qj (Xk (hK _ _ ?_))); refine Ql (Ql ?_); exact Xv hM _ es (Qc 3 (Qc 2 (by exact Qu J ⟨rfl, rfl, rfl, rfl, rfl, trivial⟩)))
        · rw [if_neg h2] at es; refine Qy (Xw mixed 13 (.p 0 (.p 1 (.p 2 (.p 3 (.p 7 (.p 8 (.f 4 (.f 5 (.f 6 (.f 9 (.p 10 (.p 11 (.p 12 .done))))))))))))) (by kernel_rfl) (fun K hK => ?_)); refine Qq J J J (Qk ieql J J J J (Qq J J J (Qf 67 (p := kn = 2) J (fun h3 => ?_) (fun h3 => ?_))))
          · refine QJ J J J fV1 J (QJ J J J fS11 J (Z4 J J fN0 J (QX J J J J J lMAd J (Qe (n := 2) J J J J J Y9 J (Ops.lookM (i := 8) (cv := adrF) (enc := spE) 0 (c.fl, c.tt) J J J J (KeyIs.agg (us := [.int .i64 c.fl, .int .i64 c.tt]) J) uMAd z0Adr (fun _ _ => rfl) Xi J ?_))))); generalize (look1 m.1 (c.fl, c.tt)).getD 0 = a at es ⊢; refine QX J J J J J lAddr J (Qk ineq J J J J (Q3 J J J J (Qv J J J (Qj (hK _ _ (Qz ?_)))))); clear hK K; refine Q2 J (fun h4 => ?_) (fun h4 => ?_)
            · rw [if_pos ⟨h3, fun h => h4 (by rw [h])⟩] at es; refine St.drawQ mixed [6, 7] (.p 0 (.p 3 (.f 1 (.f 2 (.m 4 (.m 5 (.a 6 (.a 7 .done .non) .non) (.a 6 (.f 5 (.a 7 .done .non)) .non)) (.m 5 (.m 4 (.a 6 (.a 7 .done .non) .non) (.a 6 (.f 4 (.a 7 .done .non)) .non)) (.a 6 (.f 4 (.f 5 (.a 7 .done .non))) .non))))))) (by kernel_rfl) (fun K hK => ?_); refine Qr (QJ J J J fV2 J (Qj (Qr (QJ J J J fV1 J (Qj (Zv (QX J J J J J lMSt J (Qj (Zv (Qe (n := 2) J J J J J Y9 J (Qj (X1 ?_ ?_))))))))))))
              · refine QX J J J J J lMAd J (Qj (X1 ?_ ?_))
                · refine Qe (n := 2) J J J J J Y9 J (Qj (Qm ?_ Q8)); refine Xy (i := 9) (enc := spE) (cv := intC) (c.fl, c.tt) 3 J J J (KeyIs.agg (us := [.int .i64 c.fl, .int .i64 c.tt]) J) J uMSt Xi (Qj (Qm ?_ Q8)); refine Xy (i := 8) (enc := spE) (cv := adrF) (c.fl, c.tt) 0 J J J (KeyIs.agg (us := [.int .i64 c.fl, .int .i64 c.tt]) J) J uMAd Xi (Qj (Xk (hK _ _ ?_))); refine Ql (Ql ?_); exact Xv hM _ es (Qc 3 (Qc 2 (by exact Qu J ⟨rfl, rfl, rfl, rfl, rfl, trivial⟩)))
                refine Qm ?_ Q8
                refine Xy (i := 9) (enc := spE) (cv := intC) (c.fl, c.tt) 3 J J J (KeyIs.agg (us := [.int .i64 c.fl, .int .i64 c.tt]) J) J uMSt Xi (Qj (Zv (Qe (n := 2) J J J J J Y9 J (Qj (Qm ?_ Q8))))); refine Xy (i := 8) (enc := spE) (cv := adrF) (c.fl, c.tt) 0 J J J (KeyIs.agg (us := [.int .i64 c.fl, .int .i64 c.tt]) J) J uMAd Xi (Qj (Xk (hK _ _ ?_))); refine Ql (Ql ?_); exact Xv hM _ es (Qc 3 (Qc 2 (by exact Qu J ⟨rfl, rfl, rfl, rfl, rfl, trivial⟩)))
              refine X1 ?_ ?_
              · refine Qe (n := 2) J J J J J Y9 J (Qj (X1 ?_ ?_))
                · refine QX J J J J J lMAd J (Qj (Qm ?_ Q8)); refine Xy (i := 9) (enc := spE) (cv := intC) (c.fl, c.tt) 3 J J J (KeyIs.agg (us := [.int .i64 c.fl, .int .i64 c.tt]) J) J uMSt Xi (Qj (Qm ?_ Q8)); refine Xy (i := 8) (enc := spE) (cv := adrF) (c.fl, c.tt) 0 J J J (KeyIs.agg (us := [.int .i64 c.fl, .int .i64 c.tt]) J) J uMAd Xi (Qj (Xk (hK _ _ ?_))); refine Ql (Ql ?_); exact Xv hM _ es (Qc 3 (Qc 2 (by exact Qu J ⟨rfl, rfl, rfl, rfl, rfl, trivial⟩)))
                refine Qm ?_ Q8
                refine Xy (i := 9) (enc := spE) (cv := intC) (c.fl, c.tt) 3 J J J (KeyIs.agg (us := [.int .i64 c.fl, .int .i64 c.tt]) J) J uMSt Xi (Qj (Zv (QX J J J J J lMAd J (Qj (Qm ?_ Q8))))); refine Xy (i := 8) (enc := spE) (cv := adrF) (c.fl, c.tt) 0 J J J (KeyIs.agg (us := [.int .i64 c.fl, .int .i64 c.tt]) J) J uMAd Xi (Qj (Xk (hK _ _ ?_))); refine Ql (Ql ?_); exact Xv hM _ es (Qc 3 (Qc 2 (by exact Qu J ⟨rfl, rfl, rfl, rfl, rfl, trivial⟩)))
              refine Qm ?_ Q8
              refine Xy (i := 9) (enc := spE) (cv := intC) (c.fl, c.tt) 3 J J J (KeyIs.agg (us := [.int .i64 c.fl, .int .i64 c.tt]) J) J uMSt Xi (Qj (Zv (QX J J J J J lMAd J (Qj (Zv (Qe (n := 2) J J J J J Y9 J (Qj (Qm ?_ Q8)))))))); refine Xy (i := 8) (enc := spE) (cv := adrF) (c.fl, c.tt) 0 J J J (KeyIs.agg (us := [.int .i64 c.fl, .int .i64 c.tt]) J) J uMAd Xi (Qj (Xk (hK _ _ ?_))); refine Ql (Ql ?_); exact Xv hM _ es (Qc 3 (Qc 2 (by exact Qu J ⟨rfl, rfl, rfl, rfl, rfl, trivial⟩)))
            · rw [if_neg (fun h => h.2 (Fin.ext (by omega)))] at es; refine QK (Ql (Ql ?_)); exact Xv hM _ es (Qc 3 (Qc 2 (by exact Qu J ⟨rfl, rfl, rfl, rfl, rfl, trivial⟩)))
          · rw [if_neg (fun h => h3 h.1)] at es; refine Qw J J J (Qw J J J (Qw J J J (Qw J J J (Qw J J J (Qw J J J (Qw J J J (Qw J J J (Q6 J J J J (Qv J J J (Qj (hK _ _ (Qz (Xu J (QK (Ql (Ql ?_)))))))))))))))); clear hK K; exact Xv hM _ es (Qc 3 (Qc 2 (by exact Qu J ⟨rfl, rfl, rfl, rfl, rfl, trivial⟩)))
  · have hi' : i = l.length := by omega
    have el : (l.take i).foldl (lookS e) ([], []) = l.foldl (lookS e) ([], []) := by rw [hi', List.take_length]
    rw [el]
    refine St.frzM 8 1 1 J J J (fun _ h => h.elim) ?_
    refine St.frzM 9 1 2 J J J (fun _ h => h.elim) ?_
    refine Qo (Qz (Qy (Qx fun K hK => ?_))); refine Qe (n := 3) J J J J J lView J (Qd 3 J J J J J szView J J (Qj (hK _ _ (Qz (Q0 ?_))))); clear hK K; refine Fin.end [_] rfl (Qg (n := 3) J J lView J QZ) J J
end Go.Proofs.YtojkdfilabmafaaGreat
namespace Go.Proofs.YtojkdfilabmafaaGreat
open Go.Own Go.Limbs
abbrev ESp := Tk × Int × Int
def plS (r : Rs) : ESp := (trOf r, r.fl, r.tt)
def plB (r : Rs) : Bool := r.an && usR r
abbrev SeenM := List (ESp × Fin 4294967296)
def clashG : SeenM → List Rs → Nat
  | _, [] => 0
  | m, r :: l =>
    if plB r = false then clashG m l + 1
    else if (look1 m (plS r)).isSome = true ∧ (look1 m (plS r)).getD 0 ≠ r.fr then 0
    else clashG (ins m (plS r) r.fr) l + 1
def conB (a b : Rs) : Bool := (plB a && plB b) && (decide (plS a = plS b) && decide (a.fr ≠ b.fr))
def witG (o : List Rs) : Option Nat :=
  let k := clashG [] o
  if k < o.length then (o.take k).findIdx? (fun a => conB a (o.getD k rs0)) else none
theorem clashG_le : ∀ (l : List Rs) (m : SeenM), clashG m l ≤ l.length
  | [], _ => Nat.le_refl _
  | r :: l, m => by
    simp only [clashG, List.length_cons]
    split
    · have := clashG_le l m; omega
    · split
      · omega
      · have := clashG_le l (ins m (plS r) r.fr); omega
theorem usR_tt {r : Rs} (h : usR r = true) : 1 ≤ r.tt ∧ r.tt ≤ 255 := by
  simp only [usR, okR, Bool.and_eq_true, decide_eq_true_eq] at h; have h1 := h.2.1; unfold ckE at h1; split at h1
  · cases h1
  · rename_i h2; unfold P1 at h2; omega
theorem hasS_tt {l : List Rs} {fl tt : Int} (h : hasS (lookG l).2 fl tt = true) : 1 ≤ tt ∧ tt ≤ 255 := by
  unfold hasS at h
  cases e : look1 (lookG l).2 (fl, tt) with
  | none => rw [e] at h; simp at h
  | some v =>
    obtain ⟨_, r, _, hu, hs⟩ := lookG_keys l _ _ e
    injection hs with h1 h2
    rw [h2]; exact usR_tt hu
theorem pathG_len (m : AdM × StM) (fl : Int) : ∀ (k : Nat) (tt : Int), (pathG m fl k tt).length ≤ k
  | 0, _ => Nat.le_refl _
  | k + 1, tt => by
    unfold pathG
    split
    · have := pathG_len m fl k (tt + 1); simp only [List.length_cons]; omega
    · exact Nat.zero_le _
attribute [local irreducible] Go.Own.Fin Ok OkB OkF OkL OkN OkT Ops St
theorem goPath : InGo Tryz.prog 87 := InGo.of Tryz.func87 rfl (by decide)
set_option maxHeartbeats 4000000 in
theorem Path_ok (l : List Rs) (fl : Int) (hl : l.length ≤ 100000) : OkF Tryz.prog 87 [rssC l, intC fl] 35 1 (adrs (pathF l fl)) := by
  have hL := Look_ok l hl
  have hb : ∀ tt, hasS (lookG l).2 fl tt = true → 1 ≤ tt ∧ tt ≤ 255 := fun tt h => hasS_tt h
  have e0 : pathF l fl = pathG (lookG l) fl 256 1 := rfl; rw [e0]; clear e0; generalize endF l = e at hL; generalize lookG l = m at hL hb ⊢
  refine OkF.enter Tryz.func87 J _ Tryz.ntmps87 J ?_
  intro S w; refine Qy (Qx fun K hK => ?_); refine Qv J J J (Qj (hK _ _ (Qz (Qy ?_)))); clear hK K; refine Qx (fun K hK => ?_); refine Qq J J J (QV goLook hL J J J J (Qi 0 J J zvView J J J (Qd 3 J J J J J szView J J (Qj (hK _ _ (Qz (Qy ?_))))))); clear hK K; refine Qx (fun K hK => ?_); refine Qv J J J (Qj (hK _ _ (Qz (Qy (Qy ?_))))); clear hK K; refine Qx (fun K hK => ?_); refine Qv J J J (Qj (hK _ _ (Qz (Q5 ?_)))); clear hK K
  refine Zo 6 1 35 1 J J J ?_
  refine Qs (α := List Ad) (fun pre => pre.length ≤ 255 ∧ pathG m fl 256 1 = pre ++ pathG m fl (256 - pre.length) (pre.length + 1))
    (fun pre => [(1, .ct (intC fl)), (5, .own 0), (6, .own 1), (7, .ct (intC (pre.length + 1)))])
    (fun pre => [(1, .row 35 1 (adrs pre)), (0, .box 224 [intC e, .fr (mapT (adM m.1)), .fr (mapT (stM m.2))])]) (fun pre => 256 - pre.length) [] ⟨Nat.zero_le _, rfl⟩ (by exact Qu J ⟨rfl, rfl, rfl, rfl, trivial⟩) ?_
  intro pre ⟨hp, hq⟩
  try dsimp only
  have hH := Has_ok e fl (pre.length + 1) m; have hb1 := hb (pre.length + 1)
  have hun : ∀ k, pathG m fl (k + 1) (pre.length + 1) = if hasS m.2 fl (pre.length + 1) then (look1 m.1 (fl, (pre.length : Int) + 1)).getD 0 :: pathG m fl k (pre.length + 1 + 1) else [] := fun _ => rfl
  generalize hasS m.2 fl (pre.length + 1) = hs at hH hb1 hun; refine Qy (Qy (Qx fun K hK => ?_)); refine Qe (n := 3) J J J J J lView J (Qq J J J (Qq J J J (QV goHas hH J J J J (Qj (hK _ _ (Qz ?_)))))); clear hK K; refine X4 J (fun h => ?_) (fun h => ?_)
  · have hl2 := hb1 h; obtain ⟨k, hk⟩ : ∃ k, 256 - pre.length = k + 1 := ⟨255 - pre.length, by omega⟩; rw [hk, hun, if_pos h] at hq; refine QK (Qz (Qy (Q5 (Qx fun K hK => ?_)))); refine Qq J J J (QJ J J J fV1 J (QX J J J J J lMAd J (Qq J J J (Qq J J J (Qp J bSpot J (.one J J J J (.one J J J J .nil)) J (Ops.lookF (cv := adrF) (enc := spE) 0 (fl, (pre.length : Int) + 1) J J J (KeyIs.agg (us := [.int .i64 fl, .int .i64 ((pre.length : Int) + 1)]) J) uMAd z0Adr (fun _ _ => rfl) Xi J ?_)))))); generalize (look1 m.1 (fl, (pre.length : Int) + 1)).getD 0 = a at hq ⊢; skip; refine Xn J J sAdrs J J J (Qt pre.length (adrs (pre ++ [a])) J J J J sAdrs (by simp [adrs]) J (by omega) (by omega) (by simp [adrs]) J ?_); refine Qv J J J (Qj (hK _ _ (Qz ?_))); clear hK K; refine Qx (fun K hK => ?_); refine Qq J J J (Qk (iadd (by omega) (by omega)) J J J J ?_); refine Qv J J J (Qj (hK _ _ (Q7 ?_))); clear hK K; refine Qb (pre ++ [a]) (by rw [List.length_append]; simp; omega) ⟨by rw [List.length_append]; simp; omega, ?_⟩ (by exact Qu J ⟨rfl, rfl, rfl, by simp only [List.length_append, List.length_cons, List.length_nil, Int.natCast_add]; rfl, trivial⟩); rw [hq, List.length_append, List.append_assoc]
    have : 256 - (pre.length + [a].length) = k := by simp; omega
    rw [this]; simp
  · obtain ⟨k, hk⟩ : ∃ k, 256 - pre.length = k + 1 := ⟨255 - pre.length, by omega⟩; rw [hk, hun, if_neg (by rw [h]; decide), List.append_nil] at hq; refine Qo (Qz (Qy (Qx fun K hK => ?_))); refine Qq J J J (Qv J J J (Qj (hK _ _ (Qz (Q0 ?_))))); clear hK K; refine Fin.retF J J (by rw [hq]; rfl) J
abbrev esI (s : ESp) : List Int := [s.1.va, (s.1.ds.val : Int), s.1.pr, s.2.1, s.2.2]
abbrev esK : List IntKind := [.i64, .u32, .i64] ++ [.i64, .i64]
abbrev esE (s : ESp) : Value := Go.Own.encI esK (esI s)
abbrev esCs (s : ESp) : List CT := [intC s.1.va, adrF s.1.ds, intC s.1.pr, intC s.2.1, intC s.2.2]
abbrev esC (s : ESp) : CT := .fr (aggT (esCs s))
abbrev esV (s : ESp) : List Value := [.int .i64 s.1.va, .int .u32 (s.1.ds.val : Int), .int .i64 s.1.pr, .int .i64 s.2.1, .int .i64 s.2.2]
theorem eqES : EqF Tryz.prog 282 123 [.i64, .u32, .i64] [.i64, .i64] := ⟨by kernel_rfl, by kernel_rfl, by kernel_rfl, by kernel_rfl, by kernel_rfl, by kernel_rfl, by kernel_rfl, by kernel_rfl⟩
theorem esI_inj (a b : ESp) (h : esI a = esI b) : a = b := by
  obtain ⟨⟨a1, a2, a3⟩, a4, a5⟩ := a; obtain ⟨⟨b1, b2, b3⟩, b4, b5⟩ := b; simp only [esI, List.cons.injEq, and_true, Int.ofNat_inj, Fin.val_inj] at h; obtain ⟨h1, h2, h3, h4, h5⟩ := h; rw [h1, h2, h3, h4, h5]
theorem keyES : KeyT Tryz.prog 282 esE := eqES.flat.key esI (fun _ => rfl) esI_inj
theorem gES : Tryz.prog.eqGuardType Tryz.prog.depth 282 = false := by kernel_rfl
theorem lES : LdN Tryz.prog 282 5 := LdN.of _ Tryz.underlying282 rfl (by kernel_rfl)
theorem szES : (Tryz.prog.info? 282).map (·.size) = some 5 := by kernel_rfl
theorem zvES : (Tryz.prog.info? 282).map (·.zero) = some (some (.agg #[.int .i64 0, .int .u32 0, .int .i64 0, .int .i64 0, .int .i64 0])) := by kernel_rfl
theorem bES : bInfo Tryz.prog 282 = some (.agg #[.int .i64 0, .int .u32 0, .int .i64 0, .int .i64 0, .int .i64 0], [(0, some 3), (3, some 1), (4, some 1)]) := by kernel_rfl
theorem uMSeen : Tryz.prog.underlying 280 = some (.map 282 35) := Tryz.underlying280
theorem goPlace : InGo Tryz.prog 233 := InGo.of Tryz.func233 rfl (by decide)
set_option maxHeartbeats 4000000 in
theorem Place_ok (r : Rs) : Ok Tryz.prog 233 [rsC r] (.fr (tupT [esC (plS r), boolC (plB r)])) := by
  have hT := TraceOf_ok r; have hU := Usable_ok r; have e0 : plB r = (r.an && usR r) := rfl; generalize usR r = ub at hU e0
  refine Ok.enter Tryz.func233 J _ Tryz.ntmps233 J ?_
  intro S w; refine Qy (Qx fun K hK => ?_); refine XX 0 J J J J J J J (Qi 1 J J zvES J J J (Qv J J J (Qj (hK _ _ (Qz (Qy ?_)))))); clear hK K; refine Xw mixed 13 (.p 2 (.p 4 (.p 7 (.f 0 (.f 3 (.f 5 (.fork 1 (.p 6 (.m 8 (.p 9 (.m 10 (.m 11 (.p 12 (.a 13 (.p 14 .done)))))))) 8 (.m 1 (.p 6 (.p 9 (.m 10 (.m 11 (.p 12 (.a 13 (.p 14 .done))))))))))))))) (by kernel_rfl) (fun K hK => ?_); refine QJ J J J fS6 J (QJ J J J fS7 J (QJ J J J fS8 J (Qe (n := 17) J J J J J lRes J (QX J J J J J lInt J (QX J J J J J lInt J (Ops.fork ?_ ?_))))))
  · refine QV goTraceOf hT J J J J (Qp J bES J (.agg J J J J (.one J J J J (.one J J J J .nil))) J (QX J J J J J lBool1 J (Qq J J J (Xc 13 (b := r.an) J (fun h => ?_) (fun h => ?_)))))
    · refine Qe (n := 17) J J J J J lRes J (QV goUsable hU J J J J (Q3 J J J J (Qd 5 J J J J J szES J J (Qv J J J (Qj (hK _ _ (Qz (Q0 ?_)))))))); clear hK K; refine QU [_, _] rfl (Qg (n := 5) J J lES J (QQ J QZ)) (by rw [e0, h, Bool.true_and]; rfl) J
    · refine Qw J J J (Qw J J J (Q6 J J J J (Qd 5 J J J J J szES J J (Qv J J J (Qj (hK _ _ (Qz (Q0 ?_)))))))); clear hK K; refine QU [_, _] rfl (Qg (n := 5) J J lES J (QQ J QZ)) (by rw [e0, h, Bool.false_and]; rfl) J
  · refine QX J J J J J lBool1 J (QV goTraceOf hT J J J J (Qp J bES J (.agg J J J J (.one J J J J (.one J J J J .nil))) J (Qq J J J (Xc 13 (b := r.an) J (fun h => ?_) (fun h => ?_)))))
    · refine Qe (n := 17) J J J J J lRes J (QV goUsable hU J J J J (Q3 J J J J (Qd 5 J J J J J szES J J (Qv J J J (Qj (hK _ _ (Qz (Q0 ?_)))))))); clear hK K; refine QU [_, _] rfl (Qg (n := 5) J J lES J (QQ J QZ)) (by rw [e0, h, Bool.true_and]; rfl) J
    · refine Qw J J J (Qw J J J (Q6 J J J J (Qd 5 J J J J J szES J J (Qv J J J (Qj (hK _ _ (Qz (Q0 ?_)))))))); clear hK K; refine QU [_, _] rfl (Qg (n := 5) J J lES J (QQ J QZ)) (by rw [e0, h, Bool.false_and]; rfl) J
theorem goContradict : InGo Tryz.prog 168 := InGo.of Tryz.func168 rfl (by decide)
set_option maxHeartbeats 4000000 in
theorem Contradict_ok (a b : Rs) : Ok Tryz.prog 168 [rsC a, rsC b] (boolC (conB a b)) := by
  have hA := Place_ok a; have hB := Place_ok b; have e0 : conB a b = ((plB a && plB b) && (decide (plS a = plS b) && decide (a.fr ≠ b.fr))) := rfl; have e1 : decide (esI (plS a) = esI (plS b)) = decide (plS a = plS b) := decide_eq_decide.2 ⟨esI_inj _ _, fun h => by rw [h]⟩; generalize plS a = sa at hA e0 e1; generalize plS b = sb at hB e0 e1; generalize plB a = pa at hA e0; generalize plB b = pb at hB e0
  refine Ok.enter Tryz.func168 J _ Tryz.ntmps168 J ?_
  intro S w; refine Qy (Qx fun K hK => ?_); refine XX 0 J J J J J J J (XX 1 J J J J J J J (Qv J J J (Qj (hK _ _ (Qz (Qy ?_)))))); clear hK K; refine Qx (fun K hK => ?_); refine Qe (n := 17) J J J J J lRes J (QV goPlace hA J J J J (Qq J J J (Q4 J J J J (Q4 J J J J (Qi 2 J J zvES J J J (Qd 5 J J J J J szES J J (Qv J J J (Qj (hK _ _ (Qz (Qy ?_))))))))))); clear hK K; refine Qx (fun K hK => ?_); refine Qe (n := 17) J J J J J lRes J (QV goPlace hB J J J J (Qq J J J (Q4 J J J J (Q4 J J J J (Qi 3 J J zvES J J J (Qd 5 J J J J J szES J J (Qv J J J (Qj (hK _ _ (Qz (Qy ?_))))))))))); clear hK K; refine Qx (fun K hK => ?_); refine Qq J J J (Qq J J J (Xc 20 (b := pa) J (fun h => ?_) (fun h => ?_)))
  · refine Qq J J J (Q3 J J J J (Qq J J J (Xc 23 (b := pb) J (fun h2 => ?_) (fun h2 => ?_))))
    · skip; refine Qe (n := 5) J J J J J lES J (Qe (n := 5) J J J J J lES J (Ops.eqK (ks := esK) (esI sa) (esI sb) J J J J J eqES.flat gES J ?_)); rw [e1]; refine Q3 J J J J (Qq J J J (Qf 28 (p := sa = sb) J (fun h3 => ?_) (fun h3 => ?_)))
      · refine QJ J J J fS11 J (Z4 J J fN0 J (QX J J J J J lAddr J (QJ J J J fS11 J (Z4 J J fN0 J (QX J J J J J lAddr J (Qk ineq J J J J (Q3 J J J J (Qv J J J (Qj (hK _ _ (Qz (Q0 ?_)))))))))))); clear hK K; refine QU [_] rfl (QQ J QZ) (by rw [e0, h, h2, decide_eq_true h3]; simp only [Bool.true_and]; rw [show (decide (a.fr ≠ b.fr)) = decide (¬((a.fr.val : Int) = b.fr.val)) from decide_eq_decide.2 ⟨fun h h' => h (Fin.ext (by omega)), fun h h' => h (by rw [h'])⟩]; rfl) J
      · refine Qw J J J (Qw J J J (Qw J J J (Qw J J J (Qw J J J (Qw J J J (Qw J J J (Q6 J J J J (Qv J J J (Qj (hK _ _ (Qz (Q0 ?_)))))))))))); clear hK K; refine QU [_] rfl (QQ J QZ) (by rw [e0, h, h2, decide_eq_false h3]; rfl) J
    · refine Qw J J J (Qw J J J (Qw J J J (Q6 J J J J (Qq J J J (Qw J J J (Qw J J J (Qw J J J (Qw J J J (Qw J J J (Qw J J J (Qw J J J (Q6 J J J J (Qv J J J (Qj (hK _ _ (Qz (Q0 ?_))))))))))))))))); clear hK K; refine QU [_] rfl (QQ J QZ) (by rw [e0, h, h2]; rfl) J
  · refine Qw J J J (Q6 J J J J (Qq J J J (Qw J J J (Qw J J J (Qw J J J (Q6 J J J J (Qq J J J (Qw J J J (Qw J J J (Qw J J J (Qw J J J (Qw J J J (Qw J J J (Qw J J J (Q6 J J J J (Qv J J J (Qj (hK _ _ (Qz (Q0 ?_)))))))))))))))))))); clear hK K; refine QU [_] rfl (QQ J QZ) (by rw [e0, h]; rfl) J
attribute [local irreducible] OkM
theorem knOk_ins {l : List Rs} {m : KnM} (h : knOk l m) (s : Stm) : knOk l (ins m s (pathF (ofF l s.1) s.2)) := fun x p hx => by
  rw [look1_ins] at hx
  split at hx
  · rename_i e; subst e; injection hx with hx; exact hx.symm
  · exact h x p hx
theorem pathF_len (l : List Rs) (fl : Int) : (pathF l fl).length ≤ 256 := pathG_len _ _ _ _
abbrev Me := Rs × List Wr
def me0 : Me := (rs0, [])
abbrev meCs (x : Me) : List CT := rsCs x.1 ++ [wrsC x.2]
theorem me_len (x : Me) : (meCs x).length = 18 := rfl
abbrev mesC (l : List Me) : CT := .fr (sliceT 18 (l.map meCs))
def mes (l : List Me) : List CT := (l.map meCs).flatten
theorem mes_frozen (e : Nat) (l : List Me) : (Ent.row e 18 (mes l)).frozen (sliceT 18 (l.map meCs)) :=
  ⟨_, rfl, fun e he => by obtain ⟨m, _, rfl⟩ := List.mem_map.mp he; rfl, by decide, rfl⟩
theorem mes_at {l : List Me} {j : Int} (h0 : 0 ≤ j) (h : j < (l.length : Int)) : (l.map meCs)[j.toNat]? = some (meCs (l.getD j.toNat me0)) := by
  have : j.toNat < l.length := by omega
  simp [List.getElem?_map, List.getElem?_eq_getElem this, List.getD_eq_getElem?_getD]
theorem mes_len (l : List Me) : (mes l).length = l.length * 18 := el_len me_len l
theorem mes_snoc (l : List Me) (r : Me) : mes (l ++ [r]) = mes l ++ meCs r := by simp [mes]
abbrev zMe : Value := .agg #[.int .i64 0, .int .i64 0, .int .i64 0, .int .i64 0, .int .u32 0, .int .i64 0, .int .i64 0, .int .i64 0, .bool false, .bool false, .int .i64 0, .int .u32 0, .int .i64 0, .int .i64 0, .int .i64 0, .int .i64 0, .int .i64 0, .slice none 0 0]
theorem sMes : SlcT Tryz.prog 104 111 18 152 zMe := SlcT.of Tryz.underlying104 (by kernel_rfl) rfl (by decide)
theorem lMe : LdN Tryz.prog 111 18 := LdN.of _ Tryz.underlying111 rfl (by kernel_rfl)
theorem szMe : (Tryz.prog.info? 111).map (·.size) = some 18 := by kernel_rfl
theorem zvMe : (Tryz.prog.info? 111).map (·.zero) = some (some zMe) := by kernel_rfl
theorem bMe : bInfo Tryz.prog 111 = some (zMe, [(0, some 17), (17, some 1)]) := by kernel_rfl
theorem fMe1 : fldInfo Tryz.prog 111 1 = some (17, some 1) := by kernel_rfl
theorem eqDst : EqF Tryz.prog 159 123 [.i64, .u32, .i64] [.i64] := ⟨by kernel_rfl, by kernel_rfl, by kernel_rfl, by kernel_rfl, by kernel_rfl, by kernel_rfl, by kernel_rfl, by kernel_rfl⟩
theorem keyDst : KeyT Tryz.prog 159 stmE := eqDst.flat.key stmI (fun _ => rfl) stmI_inj
theorem lDst : LdN Tryz.prog 159 4 := LdN.of _ Tryz.underlying159 rfl (by kernel_rfl)
theorem szDst : (Tryz.prog.info? 159).map (·.size) = some 4 := by kernel_rfl
theorem zvDst : (Tryz.prog.info? 159).map (·.zero) = some (some (.agg #[.int .i64 0, .int .u32 0, .int .i64 0, .int .i64 0])) := by kernel_rfl
theorem bDst : bInfo Tryz.prog 159 = some (.agg #[.int .i64 0, .int .u32 0, .int .i64 0, .int .i64 0], [(0, some 3), (3, some 1)]) := by kernel_rfl
theorem fDst0 : fldInfo Tryz.prog 159 0 = some (0, some 3) := by kernel_rfl
theorem uMDst : Tryz.prog.underlying 156 = some (.map 159 93) := Tryz.underlying156
def paF (l : List Rs) (r : Rs) : List (_root_.Fin 4294967296) := pathF (ofF l (trOf r)) r.fl
def mesB (l : List Rs) (r : Rs) : Bool := r.an && (usR r && (decide (r.tt ≤ ((paF l r).length : Int)) && (decide ((paF l r).getD (r.tt.toNat - 1) 0 = r.fr) && (wsO ((paF l r).take r.tt.toNat)).2)))
def meF (l : List Rs) (r : Rs) : Me := (r, (wsO ((paF l r).take r.tt.toNat)).1)
def msF (l : List Rs) : List Me := ((sd cmpR (l.filter okR)).filter (mesB l)).map (meF l)
theorem gomeasures : InGo Tryz.prog 45 := InGo.of Tryz.func45 rfl (by decide)
set_option maxHeartbeats 16000000 in
theorem measures_ok (l : List Rs) (hl : l.length ≤ 10000) : Ok Tryz.prog 45 [rssC l] (mesC (msF l)) := by
  have hT := Traces_ok l hl
  have hOf := fun t => Of_ok l t hl
  have hO := Order_ok l hl
  have hU := fun r => Usable_ok r
  have hTl : (trsF l).length ≤ 10000 := by
    have h1 := sd_len cmpT ((l.filter okR).map trOf)
    have h2 := List.length_filter_le okR l
    rw [List.length_map] at h1
    unfold trsF; omega
  have hol : (sd cmpR (l.filter okR)).length ≤ 10000 := by
    have := sd_len cmpR (l.filter okR)
    have := List.length_filter_le okR l
    omega
  have hP := fun r => Path_ok (ofF l (trOf r)) r.fl (by
    have h1 := sd_len cmpR (l.filter okR)
    have h2 := List.length_filter_le okR l
    have h3 := List.length_filter_le (fun x => decide (trOf x = trOf r)) (sd cmpR (l.filter okR))
    unfold ofF; omega)
  have hpl : ∀ r, (paF l r).length ≤ 256 := fun r => pathF_len _ _
  have hLo := owF_look l
  have hm : msF l = ((sd cmpR (l.filter okR)).filter (mesB l)).map (meF l) := rfl
  have ho : owF l = (trsF l).foldl (fun m t => ins m t (ofF l t)) [] := rfl
  have hB : ∀ r, mesB l r = (r.an && (usR r && (decide (r.tt ≤ ((paF l r).length : Int)) && (decide ((paF l r).getD (r.tt.toNat - 1) 0 = r.fr) && (wsO ((paF l r).take r.tt.toNat)).2)))) := fun _ => rfl
  have hF : ∀ r, meF l r = (r, (wsO ((paF l r).take r.tt.toNat)).1) := fun _ => rfl
  generalize msF l = out at hm ⊢
  generalize sd cmpR (l.filter okR) = o at hO hol hm
  generalize owF l = om at hLo ho
  generalize trsF l = ts at hT hTl ho
  generalize mesB l = mb at hB hm
  generalize meF l = mf at hF hm
  refine Ok.enter Tryz.func45 rfl _ Tryz.ntmps45 rfl ?_
  intro S w0
  (refine Qy (Qx fun K hK => ?_); refine Qv rfl rfl rfl ?_; refine Qj (hK _ _ (Qz (Qy ?_))); clear hK K; refine Qx (fun K hK => ?_))
  refine Ops.mkMap 6 rfl rfl rfl rfl rfl (fun v1 hv1 => ?_)
  (refine Qv rfl rfl rfl ?_; refine Qj (hK _ _ (Qz (Qy (Qy ?_)))); clear hK K; refine Qx (fun K hK => ?_); refine Qq rfl rfl rfl ?_)
  refine Zh 3 goTraces hT rfl rfl rfl rfl rfl rfl ?_
  refine ZV 3 _ rfl (tks_frozen _ _) noBor_sub ?_
  (refine Qh rfl rfl (by with_reducible first | exact sTks.und | exact sWrs.und | exact sIks.und | exact sAdrs.und) (List.length_map ..) rfl ?_; refine Qq rfl rfl rfl ?_; refine Qj (hK _ _ (Qz (Q5 ?_))); clear hK K)
  refine Qs (α := Nat) (fun i => i ≤ ts.length)
    (fun i => [(0, .ct (rssC l)), (3, .ct (.ex v1)), (17, .ct (tksC ts)), (18, .ct (intC ts.length)), (19, .ct (intC i))])
    (fun i => [(6, .mpx v1 (owM ((ts.take i).foldl (fun m t => ins m t (ofF l t)) [])))])
    (fun i => ts.length - i) 0 (Nat.zero_le _) (by exact Qu rfl ⟨rfl, rfl, rfl, rfl, rfl, trivial⟩) ?_
  intro i hi
  try dsimp only at hi ⊢
  (refine Qy (Qx fun K hK => ?_); refine Qk ilss rfl rfl rfl rfl ?_; refine Qj (hK _ _ (Qz (Qy ?_))); clear hK K)
  refine Q2 rfl (fun h => ?_) (fun h => ?_)
  · have e2 : (i : Int).toNat = i := Int.toNat_natCast i
    have hs := foldl_take (fun m t => ins m t (ofF l t)) ([] : OwM) (z := tk0) (l := ts) (i := i) (by omega)
    generalize (ts.take i).foldl (fun m t => ins m t (ofF l t)) ([] : OwM) = m at hs ⊢
    (refine QK (Qz (Qy (Q5 (Qy (Qx fun K hK => ?_))))))
    refine Xz rfl rfl rfl (by with_reducible exact sTks) (by omega) (tks_at (by omega) (by omega)) rfl ?_
    rw [e2]
    generalize ts.getD i tk0 = t at hs ⊢
    refine Xe (n := 3) rfl rfl rfl (by with_reducible exact lTrace) rfl rfl ?_
    refine Qi 2 rfl rfl (by with_reducible exact zvTrace) rfl rfl rfl ?_
    refine Qd 3 rfl rfl rfl rfl rfl (by with_reducible exact szTrace) rfl rfl ?_
    (refine Qj (hK _ _ (Qz ?_)); clear hK K)
    refine Xw (by with_reducible exact mixed) 5 (.p 0 (.p 2 (.f 1 (.f 3 (.m 4 (.a 5 .done)))))) (by kernel_rfl) (fun K hK => ?_)
    (refine Qq rfl rfl rfl ?_; refine Qq rfl rfl rfl ?_; refine Qe (n := 3) rfl rfl rfl rfl rfl (by with_reducible exact lTrace) rfl ?_; refine Qe (n := 3) rfl rfl rfl rfl rfl (by with_reducible exact lTrace) rfl ?_)
    refine Zh 3 goOf (hOf t) rfl rfl rfl rfl rfl rfl ?_
    refine ZV 3 _ rfl (rss_frozen _ _) noBor_sub ?_
    refine Xy (i := 6) (enc := tkE) (cv := rssC) t (ofF l t) rfl rfl rfl (KeyIs.agg (us := tkVs t) rfl) rfl uMOwn keyTk ?_
    (refine Qj (hK _ _ (Qz ?_)); clear hK K; refine Qx (fun K hK => ?_); refine Qk (iadd (by omega) (by omega)) rfl rfl rfl rfl ?_; refine Qq rfl rfl rfl ?_; refine Qj (hK _ _ (Q7 ?_)); clear hK K)
    refine XQ 2 ?_
    refine Qb (i + 1) (by omega) (by omega) (by rw [hs]; exact Qu rfl ⟨rfl, rfl, rfl, rfl, by simp only [Int.natCast_add]; rfl, trivial⟩)
  have hi' : i = ts.length := by omega
  rw [hi', List.take_length, ← ho]
  clear hT hOf ho hTl
  (refine Qo (Qz (Qy (Qx fun K hK => ?_))))
  refine Ops.mkMap 8 rfl rfl rfl rfl rfl (fun v2 hv2 => ?_)
  (refine Qv rfl rfl rfl ?_; refine Qj (hK _ _ (Qz (Qy ?_))); clear hK K; refine Qx (fun K hK => ?_); refine Qv rfl rfl rfl ?_; refine Qj (hK _ _ (Qz (Qy (Qy ?_)))); clear hK K; refine Qx (fun K hK => ?_); refine Qq rfl rfl rfl ?_)
  refine Zh 3 goOrder hO rfl rfl rfl rfl rfl rfl ?_
  refine ZV 3 _ rfl (rss_frozen _ _) noBor_sub ?_
  (refine Qh rfl rfl (by with_reducible exact sRes.und) (List.length_map ..) rfl ?_; refine Qq rfl rfl rfl ?_; refine Qj (hK _ _ (Qz (Q5 ?_))); clear hK K)
  refine Zo 7 4 111 18 rfl rfl rfl ?_
  refine Qs (α := Nat × KnM) (fun q => q.1 ≤ o.length ∧ knOk l q.2)
    (fun q => [(3, .ct (.ex v1)), (6, .ct (.ex v2)), (7, .own 4), (31, .ct (rssC o)), (32, .ct (intC o.length)), (33, .ct (intC q.1))])
    (fun q => [(4, .row 111 18 (mes (((o.take q.1).filter mb).map mf))), (8, .mpx v2 (knM q.2)), (6, .mpx v1 (owM om))])
    (fun q => o.length - q.1) (0, []) ⟨Nat.zero_le _, fun _ _ h => by cases h⟩ (by exact Qu rfl ⟨rfl, rfl, rfl, rfl, rfl, rfl, trivial⟩) ?_
  clear h hi hi' i
  intro ⟨i, m⟩ ⟨hi, hm'⟩
  try dsimp only at hi hm' ⊢
  (refine Qy (Qx fun K hK => ?_); refine Qk ilss rfl rfl rfl rfl ?_; refine Qj (hK _ _ (Qz (Qy ?_))); clear hK K)
  refine Q2 rfl (fun h => ?_) (fun h => ?_)
  rotate_left
  · have hi' : i = o.length := by omega
    rw [hi', List.take_length, ← hm]
    (refine Qo (Qz (Qy (Qx fun K hK => ?_))); refine Qq rfl rfl rfl ?_; refine Qv rfl rfl rfl ?_; refine Qj (hK _ _ (Qz (Q0 ?_))); clear hK K)
    refine YY 4 _ rfl (mes_frozen _ _) noBor_sub ?_
    refine QU [_] rfl (QQ rfl QZ) rfl rfl
  have e2 : (i : Int).toNat = i := Int.toNat_natCast i
  have hs := filter_take mb (z := rs0) (i := i) (l := o) (by omega)
  have hfl := filter_len mb o i
  (refine QK (Qz (Qy (Q5 (Qy (Qx fun K hK => ?_))))); refine Xz rfl rfl rfl (by with_reducible exact sRes) (by omega) (Y6 (by omega) (by omega)) rfl ?_; refine Xe (n := 17) rfl rfl rfl (by with_reducible exact lRes) rfl rfl ?_; refine Qi 0 rfl rfl (by with_reducible exact zvRes) rfl rfl rfl ?_; refine Qd 17 rfl rfl rfl rfl rfl (by with_reducible exact szRes) rfl rfl ?_; refine Qj (hK _ _ (Qz (Qy (Qy ?_)))); clear hK K; refine Qx (fun K hK => ?_); refine QJ rfl rfl rfl (by with_reducible first | exact fS0 | exact fS1 | exact fS2 | exact fS3 | exact fS4 | exact fS5 | exact fS6 | exact fS7 | exact fS8 | exact fS9 | exact fS10 | exact fS11 | exact fN0 | exact fN1 | exact fN2 | exact fN3 | exact fN4 | exact fN5) rfl ?_; refine QX rfl rfl rfl rfl rfl (by with_reducible first | exact lInt | exact lAddr | exact lBool1 | exact lRess) rfl ?_; refine Xx rfl rfl rfl ?_; refine Qq rfl rfl rfl ?_)
  rw [e2]
  generalize o.getD i rs0 = r at hs
  generalize (o.take i).filter mb = q at hs hfl ⊢
  rw [hB r] at hs
  have hkn := fun m (h : knOk l m) => knOk_ins h (trOf r, r.fl)
  have hal' := fun p => hm' (trOf r, r.fl) p
  have hPr := hP r
  have hpr := hpl r
  have hFr := hF r
  have hLr := hLo (trOf r)
  have hUr := hU r
  have hTt : usR r = true → 1 ≤ r.tt ∧ r.tt ≤ 255 := usR_tt
  clear hP hpl hF hB hLo hU hm
  dsimp only at hkn hal'
  unfold paF at hs hpr hFr
  generalize pathF (ofF l (trOf r)) r.fl = p at hs hpr hFr hal' hkn hPr
  rw [← hLr] at hPr
  generalize usR r = ub at hUr hTt hs
  refine Xc 40 rfl (fun g1 => ?_) (fun g1 => ?_)
  · rw [if_neg (by simp at g1; simp [g1])] at hs
    (refine Qw rfl rfl rfl ?_; refine Qw rfl rfl rfl ?_; refine Qw rfl rfl rfl ?_; refine Q3 rfl rfl rfl rfl ?_; refine Qj (hK _ _ (Qz (XZ rfl (Qo (Qz ?_))))); clear hK K; refine Qx (fun K hK => ?_); refine Qk (iadd (by omega) (by omega)) rfl rfl rfl rfl ?_; refine Qq rfl rfl rfl ?_; refine Qj (hK _ _ (Q7 ?_)); clear hK K)
    refine XQ 0 ?_
    refine Qb (i + 1, m) (by dsimp only; omega) ⟨by dsimp only; omega, hm'⟩ (by dsimp only; rw [hs]; exact Qu rfl ⟨rfl, rfl, rfl, rfl, rfl, by simp only [Int.natCast_add]; rfl, trivial⟩)
  have g1 : r.an = true := by simpa using g1
  (refine Qe (n := 17) rfl rfl rfl rfl rfl (by with_reducible exact lRes) rfl ?_)
  refine QV goUsable hUr rfl rfl rfl rfl ?_
  (refine Xx rfl rfl rfl ?_; refine Q6 rfl rfl rfl rfl ?_; refine Qj (hK _ _ (Qz ?_)); clear hK K)
  refine X4 rfl (fun g2 => ?_) (fun g2 => ?_)
  · rw [if_neg (by simp at g2; simp [g2])] at hs
    (refine Qo (Qz (Qx fun K hK => ?_)); refine Qk (iadd (by omega) (by omega)) rfl rfl rfl rfl ?_; refine Qq rfl rfl rfl ?_; refine Qj (hK _ _ (Q7 ?_)); clear hK K)
    refine XQ 0 ?_
    refine Qb (i + 1, m) (by dsimp only; omega) ⟨by dsimp only; omega, hm'⟩ (by dsimp only; rw [hs]; exact Qu rfl ⟨rfl, rfl, rfl, rfl, rfl, by simp only [Int.natCast_add]; rfl, trivial⟩)
  have g2 : ub = true := by simpa using g2
  obtain ⟨t1, t2⟩ := hTt g2
  rw [g1, g2, Bool.true_and, Bool.true_and] at hs
  clear hTt hUr
  (refine QK (Qz (Qy ?_)))
  refine Y4 (α := Unit) (fun _ => True) (fun _ => [(3, .ct (.ex v1)), (6, .ct (.ex v2)), (7, .own 4), (31, .ct (rssC o)), (32, .ct (intC o.length)), (33, .ct (intC i)), (9, .own 0), (10, .own 1)])
    (fun _ => [(1, .box 159 (stmCs (trOf r, r.fl))), (0, .box 47 (rsCs r)), (4, .row 111 18 (mes (q.map mf))), (8, .mpx v2 (knM m)), (6, .mpx v1 (owM om))]) (fun _ _ => ?_) (fun KN hM => ?_)
  rotate_left
  · refine Xw (by with_reducible exact mixed) 6 (.p 2 (.f 0 (.f 3 (.fork 1 (.p 4 (.m 5 (.a 6 .done))) 5 (.m 1 (.p 4 (.a 6 .done))))))) (by kernel_rfl) (fun K hK => ?_)
    (refine QJ rfl rfl rfl (by with_reducible first | exact fS0 | exact fS1 | exact fS2 | exact fS3 | exact fS4 | exact fS5 | exact fS6 | exact fS7 | exact fS8 | exact fS9 | exact fS10 | exact fS11 | exact fN0 | exact fN1 | exact fN2 | exact fN3 | exact fN4 | exact fN5) rfl ?_; refine Qe (n := 17) rfl rfl rfl rfl rfl (by with_reducible exact lRes) rfl ?_; refine QX rfl rfl rfl rfl rfl (by with_reducible first | exact lInt | exact lAddr | exact lBool1 | exact lRess) rfl ?_)
    refine Ops.fork ?_ ?_
    · refine QV goTraceOf (TraceOf_ok r) rfl rfl rfl rfl ?_
      refine Qp rfl (by with_reducible exact bDst) rfl (.agg rfl rfl rfl rfl (.one rfl rfl rfl rfl .nil)) rfl ?_
      refine Qi 1 rfl rfl (by with_reducible exact zvDst) rfl rfl rfl ?_
      refine Qd 4 rfl rfl rfl rfl rfl (by with_reducible exact szDst) rfl rfl ?_
      (refine Qj (hK _ _ ?_); clear hK K)
      exact Xv hM () trivial (Qu rfl ⟨rfl, rfl, rfl, rfl, rfl, rfl, rfl, rfl, trivial⟩)
    · refine Qi 1 rfl rfl (by with_reducible exact zvDst) rfl rfl rfl ?_
      refine QV goTraceOf (TraceOf_ok r) rfl rfl rfl rfl ?_
      refine Qp rfl (by with_reducible exact bDst) rfl (.agg rfl rfl rfl rfl (.one rfl rfl rfl rfl .nil)) rfl ?_
      refine Qd 4 rfl rfl rfl rfl rfl (by with_reducible exact szDst) rfl rfl ?_
      (refine Qj (hK _ _ ?_); clear hK K)
      exact Xv hM () trivial (Qu rfl ⟨rfl, rfl, rfl, rfl, rfl, rfl, rfl, rfl, trivial⟩)
  (refine Qy (Qx fun K hK => ?_); refine Qq rfl rfl rfl ?_)
  refine Qe (n := 4) rfl rfl rfl rfl rfl (by with_reducible exact lDst) rfl ?_
  refine Ops.lookM2 (i := 8) (cv := adsC) (enc := stmE) [] (trOf r, r.fl) rfl rfl rfl rfl (KeyIs.agg (us := stmV (trOf r, r.fl)) rfl) uMDst z0Ads (fun S w => Y3 S w _ rfl) keyDst rfl ?_
  generalize look1 m (trOf r, r.fl) = lk at hal'
  refine Qq rfl rfl rfl ?_
  refine Q4 rfl rfl rfl rfl ?_
  refine Q4 rfl rfl rfl rfl ?_
  refine Qv rfl rfl rfl ?_
  refine Qv rfl rfl rfl ?_
  refine Qj (hK _ _ ?_)
  clear hK K
  refine Qz ?_
  refine Qy ?_
  refine Y4 (α := KnM) (fun m => knOk l m) (fun _ => [(3, .ct (.ex v1)), (6, .ct (.ex v2)), (7, .own 4), (31, .ct (rssC o)), (32, .ct (intC o.length)), (33, .ct (intC i)), (9, .own 0), (10, .own 1), (11, .ct (adsC p))])
    (fun m => [(1, .box 159 (stmCs (trOf r, r.fl))), (0, .box 47 (rsCs r)), (4, .row 111 18 (mes (q.map mf))), (8, .mpx v2 (knM m)), (6, .mpx v1 (owM om))]) (fun m2 hm2 => ?_) (fun KN hM => ?_)
  rotate_left
  · (refine Qy (Qx fun K hK => ?_); refine Qq rfl rfl rfl ?_; refine Xx rfl rfl rfl ?_; refine Qj (hK _ _ (Qz ?_)); clear hK K)
    refine X4 rfl (fun h2 => ?_) (fun h2 => ?_)
    · (refine Qy ?_)
      refine Xw (by with_reducible exact mixed) 8 (.p 0 (.p 1 (.p 4 (.f 2 (.f 3 (.f 5 (.m 6 (.p 7 .done)))))))) (by kernel_rfl) (fun K hK => ?_)
      (refine Qq rfl rfl rfl ?_)
      refine QJ rfl rfl rfl (by with_reducible exact fDst0) rfl ?_
      (refine QJ rfl rfl rfl (by with_reducible first | exact fS0 | exact fS1 | exact fS2 | exact fS3 | exact fS4 | exact fS5 | exact fS6 | exact fS7 | exact fS8 | exact fS9 | exact fS10 | exact fS11 | exact fN0 | exact fN1 | exact fN2 | exact fN3 | exact fN4 | exact fN5) rfl ?_)
      refine Yx (n := 3) rfl rfl rfl rfl (Nat.le_of_ble_eq_true rfl) (by with_reducible exact lTrace) rfl ?_
      refine Ops.lookM (i := 6) (enc := tkE) (cv := rssC) [] (trOf r) rfl rfl rfl rfl (KeyIs.agg (us := tkVs (trOf r)) rfl) uMOwn z0Rss (fun S w => Y3 S w _ rfl) keyTk rfl ?_
      (refine QX rfl rfl rfl rfl rfl (by with_reducible first | exact lInt | exact lAddr | exact lBool1 | exact lRess) rfl ?_)
      refine Zh 3 goPath hPr rfl rfl rfl rfl rfl rfl ?_
      refine ZV 3 _ rfl (adrs_frozen _ _) noBor_sub ?_
      (refine Qv rfl rfl rfl ?_; refine Qj (hK _ _ (Qz ?_)); clear hK K; refine Qx (fun K hK => ?_); refine Qq rfl rfl rfl ?_)
      refine Qe (n := 4) rfl rfl rfl rfl rfl (by with_reducible exact lDst) rfl ?_
      (refine Qq rfl rfl rfl ?_)
      refine Xy (i := 8) (enc := stmE) (cv := adsC) (trOf r, r.fl) p rfl rfl rfl (KeyIs.agg (us := stmV (trOf r, r.fl)) rfl) rfl uMDst keyDst ?_
      (refine Qj (hK _ _ ?_); clear hK K)
      exact Xv hM _ (hkn m hm') (Qu rfl ⟨rfl, rfl, rfl, rfl, rfl, rfl, rfl, rfl, rfl, trivial⟩)
    · cases lk with
      | none => cases h2
      | some p' =>
        rw [← hal' p' rfl] at hM
        (refine QK ?_)
        exact Xv hM m hm' (Qu rfl ⟨rfl, rfl, rfl, rfl, rfl, rfl, rfl, rfl, rfl, trivial⟩)
  clear hal' hkn hPr hm'
  (refine Qy (Qy ?_))
  refine Xw (by with_reducible exact mixed) 17 (.p 0 (.p 1 (.p 2 (.f 3 (.p 4 (.p 5 (.p 6 (.p 7 (.p 12 (.p 13 (.f 8 (.p 9 (.p 10 (.f 11 (.f 14 (.p 15 (.p 16 .done))))))))))))))))) (by kernel_rfl) (fun K hK => ?_)
  (refine Qq rfl rfl rfl ?_; refine Qh rfl rfl (by with_reducible first | exact sTks.und | exact sWrs.und | exact sIks.und | exact sAdrs.und) (List.length_map ..) rfl ?_; refine QJ rfl rfl rfl (by with_reducible first | exact fS0 | exact fS1 | exact fS2 | exact fS3 | exact fS4 | exact fS5 | exact fS6 | exact fS7 | exact fS8 | exact fS9 | exact fS10 | exact fS11 | exact fN0 | exact fN1 | exact fN2 | exact fN3 | exact fN4 | exact fN5) rfl ?_; refine QX rfl rfl rfl rfl rfl (by with_reducible first | exact lInt | exact lAddr | exact lBool1 | exact lRess) rfl ?_; refine Qk ilss rfl rfl rfl rfl ?_; refine Qq rfl rfl rfl ?_)
  refine Qf 73 rfl (fun g3 => ?_) (fun g3 => ?_)
  · rw [if_neg (by rw [decide_eq_false (show ¬ r.tt ≤ (p.length : Int) by omega)]; simp)] at hs
    (refine Qw rfl rfl rfl ?_; refine Qw rfl rfl rfl ?_; refine Qw rfl rfl rfl ?_; refine Qw rfl rfl rfl ?_; refine Qw rfl rfl rfl ?_; refine Qw rfl rfl rfl ?_; refine Qw rfl rfl rfl ?_; refine Qw rfl rfl rfl ?_; refine Qw rfl rfl rfl ?_; refine Qw rfl rfl rfl ?_; refine Q3 rfl rfl rfl rfl ?_; refine Qj (hK _ _ (Qz (XZ rfl (Qo (Qz ?_))))); clear hK K; refine Qx (fun K hK => ?_); refine Qk (iadd (by omega) (by omega)) rfl rfl rfl rfl ?_; refine Qq rfl rfl rfl ?_; refine Qj (hK _ _ (Q7 ?_)); clear hK K)
    refine XQ 1 ?_
    refine XQ 0 ?_
    refine Qb (i + 1, m2) (by dsimp only; omega) ⟨by dsimp only; omega, hm2⟩ (by dsimp only; rw [hs]; exact Qu rfl ⟨rfl, rfl, rfl, rfl, rfl, by simp only [Int.natCast_add]; rfl, trivial⟩)
  rw [decide_eq_true (show r.tt ≤ (p.length : Int) by omega), Bool.true_and] at hs
  have e6 : (r.tt - 1).toNat = r.tt.toNat - 1 := by omega
  (refine Qq rfl rfl rfl ?_; refine QJ rfl rfl rfl (by with_reducible first | exact fS0 | exact fS1 | exact fS2 | exact fS3 | exact fS4 | exact fS5 | exact fS6 | exact fS7 | exact fS8 | exact fS9 | exact fS10 | exact fS11 | exact fN0 | exact fN1 | exact fN2 | exact fN3 | exact fN4 | exact fN5) rfl ?_; refine QJ rfl rfl rfl (by with_reducible first | exact fS0 | exact fS1 | exact fS2 | exact fS3 | exact fS4 | exact fS5 | exact fS6 | exact fS7 | exact fS8 | exact fS9 | exact fS10 | exact fS11 | exact fN0 | exact fN1 | exact fN2 | exact fN3 | exact fN4 | exact fN5) rfl ?_; refine Z4 rfl rfl (by with_reducible first | exact fN0 | exact fN1 | exact fN2 | exact fN3 | exact fN4 | exact fN5) rfl ?_; refine QX rfl rfl rfl rfl rfl (by with_reducible first | exact lInt | exact lAddr | exact lBool1 | exact lRess) rfl ?_; refine Qk (isub (by omega) (by omega)) rfl rfl rfl rfl ?_)
  refine Xz rfl rfl rfl (by with_reducible exact sAdrs) (by omega) (adrs_at (by omega) (by omega)) rfl ?_
  rw [e6]
  skip
  refine X3 rfl rfl rfl (by with_reducible exact lAddr) rfl ?_
  (refine QX rfl rfl rfl rfl rfl (by with_reducible first | exact lInt | exact lAddr | exact lBool1 | exact lRess) rfl ?_; refine Qk ineq rfl rfl rfl rfl ?_; refine Q6 rfl rfl rfl rfl ?_; refine Qj (hK _ _ (Qz ?_)); clear hK K)
  refine Q2 rfl (fun g4 => ?_) (fun g4 => ?_)
  · have g4 : ¬ p.getD (r.tt.toNat - 1) 0 = r.fr := fun h => g4 (by rw [h])
    rw [if_neg (by rw [decide_eq_false g4]; simp)] at hs
    (refine Qo (Qz (Qx fun K hK => ?_)); refine Qk (iadd (by omega) (by omega)) rfl rfl rfl rfl ?_; refine Qq rfl rfl rfl ?_; refine Qj (hK _ _ (Q7 ?_)); clear hK K)
    refine XQ 1 ?_
    refine XQ 0 ?_
    refine Qb (i + 1, m2) (by dsimp only; omega) ⟨by dsimp only; omega, hm2⟩ (by dsimp only; rw [hs]; exact Qu rfl ⟨rfl, rfl, rfl, rfl, rfl, by simp only [Int.natCast_add]; rfl, trivial⟩)
  have g4 : p.getD (r.tt.toNat - 1) 0 = r.fr := _root_.Fin.ext (by have := Decidable.not_not.1 g4; omega)
  rw [decide_eq_true g4, Bool.true_and] at hs
  (refine QK (Qz (Qy (Qx fun K hK => ?_))); refine Qq rfl rfl rfl ?_; refine QJ rfl rfl rfl (by with_reducible first | exact fS0 | exact fS1 | exact fS2 | exact fS3 | exact fS4 | exact fS5 | exact fS6 | exact fS7 | exact fS8 | exact fS9 | exact fS10 | exact fS11 | exact fN0 | exact fN1 | exact fN2 | exact fN3 | exact fN4 | exact fN5) rfl ?_; refine QX rfl rfl rfl rfl rfl (by with_reducible first | exact lInt | exact lAddr | exact lBool1 | exact lRess) rfl ?_)
  refine Ops.cutHi rfl rfl rfl (by with_reducible exact sAdrs) (by omega) (by rw [List.length_map]; omega) rfl ?_
  rw [← List.map_take]
  have hw := wires_ok (p.take r.tt.toNat) (by rw [List.length_take]; omega)
  generalize wsO (p.take r.tt.toNat) = wo at hs hw hFr
  obtain ⟨ws, wb⟩ := wo
  dsimp only at hs hw hFr
  refine QV gowires hw rfl rfl rfl rfl ?_
  (refine Qq rfl rfl rfl ?_; refine Q4 rfl rfl rfl rfl ?_; refine Q4 rfl rfl rfl rfl ?_; refine Qv rfl rfl rfl ?_; refine Qv rfl rfl rfl ?_; refine Qj (hK _ _ (Qz (Qy ?_))); clear hK K; refine Qx (fun K hK => ?_); refine Qq rfl rfl rfl ?_; refine Qj (hK _ _ (Qz ?_)); clear hK K)
  refine X4 rfl (fun g5 => ?_) (fun g5 => ?_)
  · rw [if_pos g5] at hs
    (refine Qx (fun K hK => ?_); refine Qq rfl rfl rfl ?_; refine Qe (n := 17) rfl rfl rfl rfl rfl (by with_reducible exact lRes) rfl ?_; refine Qq rfl rfl rfl ?_)
    refine Qp rfl (by with_reducible exact bMe) rfl (.agg rfl rfl rfl rfl (.one rfl rfl rfl rfl .nil)) rfl ?_
    refine Zt (n := 18) rfl rfl (by with_reducible exact sMes) rfl rfl (by decide) rfl ?_
    refine Qt (q.map mf).length (mes (q.map mf ++ [(r, ws)])) rfl rfl rfl rfl (by with_reducible exact sMes) (mes_len _) rfl (by rw [List.length_map]; omega) (by rw [List.length_map]; omega) (mes_snoc _ _) rfl ?_
    (refine Qv rfl rfl rfl ?_; refine Qj (hK _ _ (Qz ?_)); clear hK K; refine Qx (fun K hK => ?_); refine Qk (iadd (by omega) (by omega)) rfl rfl rfl rfl ?_; refine Qq rfl rfl rfl ?_; refine Qj (hK _ _ (Q7 ?_)); clear hK K)
    refine XQ 1 ?_
    refine XQ 0 ?_
    refine Qb (i + 1, m2) (by dsimp only; omega) ⟨by dsimp only; omega, hm2⟩ (by dsimp only; rw [hs, List.map_append, List.map_singleton, hFr]; exact Qu rfl ⟨rfl, rfl, rfl, rfl, rfl, by simp only [Int.natCast_add]; rfl, trivial⟩)
  · rw [if_neg (by rw [g5]; decide)] at hs
    (refine QK (Qz (Qx fun K hK => ?_)); refine Qk (iadd (by omega) (by omega)) rfl rfl rfl rfl ?_; refine Qq rfl rfl rfl ?_; refine Qj (hK _ _ (Q7 ?_)); clear hK K)
    refine XQ 1 ?_
    refine XQ 0 ?_
    refine Qb (i + 1, m2) (by dsimp only; omega) ⟨by dsimp only; omega, hm2⟩ (by dsimp only; rw [hs]; exact Qu rfl ⟨rfl, rfl, rfl, rfl, rfl, by simp only [Int.natCast_add]; rfl, trivial⟩)
set_option maxHeartbeats 2000000 in
theorem IndexFunc_res (xs : List Rs) (f : FuncId) (p : Rs → Bool) (hgo : InGo Tryz.prog f) (hf : ∀ x ∈ xs, Ok Tryz.prog f [rsC x] (boolC (p x))) (hl : xs.length < 4611686018427387904) : Ok Tryz.prog 100 [rssC xs, (.ex (.func (.func f) #[] #[]))] (intC (idxI p xs)) := by
  refine Ok.enter Tryz.func100 rfl _ Tryz.ntmps100 rfl ?_
  intro S w
  (refine Qy (Qx fun K hK => ?_); refine Qv rfl rfl rfl ?_; refine Qj (hK _ _ (Qz (Qy (Qy ?_)))); clear hK K; refine Qx (fun K hK => ?_); refine Qq rfl rfl rfl ?_; refine Qh rfl rfl (by with_reducible exact sRes.und) (List.length_map ..) rfl ?_; refine Qq rfl rfl rfl ?_; refine Qj (hK _ _ (Qz (Q5 ?_))); clear hK K)
  refine Qs (α := Nat) (fun i => i ≤ xs.length ∧ ∀ j, j < i → p (xs.getD j rs0) = false)
    (fun i => [(0, .ct (rssC xs)), (1, .ct (.ex (.func (.func f) #[] #[]))), (7, .ct (intC xs.length)), (8, .ct (intC i))]) (fun _ => []) (fun i => xs.length - i) 0 ⟨Nat.zero_le _, fun j h => absurd h (Nat.not_lt_zero j)⟩ (by exact Qu rfl ⟨rfl, rfl, rfl, rfl, trivial⟩) ?_
  intro i ⟨hi, hv⟩
  dsimp only
  (refine Qy (Qx fun K hK => ?_); refine Qk ilss rfl rfl rfl rfl ?_; refine Qj (hK _ _ (Qz (Qy ?_))); clear hK K)
  refine Q2 rfl (fun h => ?_) (fun h => ?_)
  · have e2 : (i : Int).toNat = i := Int.toNat_natCast i
    (refine QK (Qz (Qy (Q5 (Qy (Qx fun K hK => ?_))))); refine Qq rfl rfl rfl ?_; refine Qv rfl rfl rfl ?_; refine Qj (hK _ _ (Qz (Qy ?_))); clear hK K; refine Qx (fun K hK => ?_); refine Qq rfl rfl rfl ?_; refine Qq rfl rfl rfl ?_; refine Qq rfl rfl rfl ?_; refine Xz rfl rfl rfl (by with_reducible exact sRes) (by omega) (Y6 (by omega) (by omega)) rfl ?_; refine Xe (n := 17) rfl rfl rfl (by with_reducible exact lRes) rfl rfl ?_)
    try rw [e2]
    skip
    refine Ops.callF hgo rfl (hf _ (getD_mem (by omega))) rfl rfl rfl rfl ?_
    (refine Qj (hK _ _ (Qz ?_)); clear hK K)
    refine X4 rfl (fun h2 => ?_) (fun h2 => ?_)
    · (refine Qy (Qx fun K hK => ?_); refine Qq rfl rfl rfl ?_; refine Qv rfl rfl rfl ?_; refine Qj (hK _ _ (Qz (Q0 (Q9 (QY (QY (Q9 (QY ?_)))))))); clear hK K)
      refine QU [_] rfl (QQ rfl QZ) (by rw [idxI_hit (by omega) h2 hv]; rfl) rfl
    · (refine QK (Qz (Qx fun K hK => ?_)); refine Qk (iadd (by omega) (by omega)) rfl rfl rfl rfl ?_; refine Qq rfl rfl rfl ?_; refine Qj (hK _ _ (Q7 ?_)); clear hK K)
      refine Qb (i + 1) (by omega) ⟨by omega, ?_⟩ (by exact Qu rfl ⟨rfl, rfl, rfl, by simp only [Int.natCast_add]; rfl, trivial⟩)
      intro j hj
      rcases Nat.lt_or_ge j i with h3 | h3
      · exact hv j h3
      · have : j = i := by omega
        rw [this]; exact h2
  · have hi' : i = xs.length := by omega
    (refine Qo (Qz (Qy (Qx fun K hK => ?_))); refine Qv rfl rfl rfl ?_; refine Qj (hK _ _ (Qz (Q0 ?_))); clear hK K)
    refine QU [_] rfl (QQ rfl QZ) (by rw [idxI_miss (fun j hj => hv j (by omega))]; rfl) rfl
theorem goIndexFunc_res : InGo Tryz.prog 100 := InGo.of Tryz.func100 (by kernel_rfl) (by kernel_rfl)
theorem ContainsFunc_res (xs : List Rs) (f : FuncId) (p : Rs → Bool) (hgo : InGo Tryz.prog f) (hf : ∀ x ∈ xs, Ok Tryz.prog f [rsC x] (boolC (p x))) (hl : xs.length < 4611686018427387904) : Ok Tryz.prog 56 [rssC xs, (.ex (.func (.func f) #[] #[]))] (boolC (xs.any p)) := by
  refine Ok.enter Tryz.func56 rfl _ Tryz.ntmps56 rfl ?_
  intro S w
  (refine Qy (Qx fun K hK => ?_); refine Qv rfl rfl rfl ?_; refine Qj (hK _ _ (Qz (Qy ?_))); clear hK K; refine Qx (fun K hK => ?_); refine Qq rfl rfl rfl ?_; refine Qq rfl rfl rfl ?_)
  refine QV goIndexFunc_res (IndexFunc_res xs f p hgo hf hl) rfl rfl rfl rfl ?_
  (refine Qk igeq rfl rfl rfl rfl ?_; refine Qv rfl rfl rfl ?_; refine Qj (hK _ _ (Qz (Q0 ?_))); clear hK K)
  refine QU [_] rfl (QQ rfl QZ) (by rw [← idxI_any]; rfl) rfl
theorem goContainsFunc_res : InGo Tryz.prog 56 := InGo.of Tryz.func56 (by kernel_rfl) (by kernel_rfl)
end Go.Proofs.YtojkdfilabmafaaGreat
namespace Go.Proofs.YtojkdfilabmafaaGreat
open Go.Own Go.Limbs
attribute [local irreducible] St Ops Go.Own.Fin Ok OkB OkN OkT OkL OkF
theorem goClash : InGo Tryz.prog 167 := InGo.of Tryz.func167 rfl (by decide)
theorem drop_getD {α : Type} {l : List α} {z : α} {i : Nat} (h : i < l.length) : l.drop i = l.getD i z :: l.drop (i + 1) := by
  rw [List.drop_eq_getElem_cons h, List.getD_eq_getElem?_getD, List.getElem?_eq_getElem h]; rfl
set_option maxHeartbeats 4000000 in
theorem Clash_ok (l : List Rs) (hl : l.length ≤ 100000) : Ok Tryz.prog 167 [rssC l] (intC (clashG [] l)) := by
  refine Ok.enter Tryz.func167 J _ Tryz.ntmps167 J ?_
  intro S w; refine Qy (Qx fun K hK => ?_); refine Qv J J J (Qj (hK _ _ (Qz (Qy ?_)))); clear hK K; refine Qx (fun K hK => ?_); refine Ops.mkMap 8 J J J J J (fun v1 hv1 => ?_); refine Qv J J J (Qj (hK _ _ (Qz (Qy (Qy ?_))))); clear hK K; refine Qx (fun K hK => ?_); refine Qq J J J (Qh J J sRes.und (List.length_map ..) J (Qq J J J (Qj (hK _ _ (Qz (Q5 ?_)))))); clear hK K
  refine Qs (α := Nat × SeenM) (fun q => q.1 ≤ l.length ∧ clashG [] l = q.1 + clashG q.2 (l.drop q.1))
    (fun q => [(3, .ct (.ex v1)), (0, .ct (rssC l)), (11, .ct (rssC l)), (12, .ct (intC l.length)), (13, .ct (intC q.1))]) (fun q => [(8, .mpx v1 (kvs esE adrF q.2))]) (fun q => l.length - q.1) (0, []) ⟨Nat.zero_le _, (Nat.zero_add _).symm⟩ (by exact Qu J ⟨rfl, rfl, rfl, rfl, rfl, trivial⟩) ?_
  rintro ⟨i, m⟩ ⟨hi, hq⟩
  try dsimp only at hi hq ⊢
  refine Qy (Qx fun K hK => ?_); refine Qk ilss J J J J (Qj (hK _ _ (Qz (Qy ?_)))); clear hK K; refine Q2 J (fun h => ?_) (fun h => ?_)
  · have e2 : (i : Int).toNat = i := Int.toNat_natCast i; rw [drop_getD (z := rs0) (show i < l.length by omega)] at hq; refine QK (Qz (Qy (Q5 (Qy (Qx fun K hK => ?_))))); refine Qq J J J (Xz J J J sRes (by omega) (Y6 (by omega) (by omega)) J ?_); refine Xe (n := 17) J J J lRes J J (Qi 0 J J zvRes J J J (Qv J J J (Qd 17 J J J J J szRes J J (Qj (hK _ _ (Qz (Qy ?_))))))); clear hK K; refine Qx (fun K hK => ?_)
    refine Qe (n := 17) J J J J J lRes J ?_
    rw [e2]; generalize l.getD i rs0 = c at hq ⊢; have hP := Place_ok c; simp only [clashG] at hq; generalize plS c = sc at hP hq; generalize plB c = pc at hP hq; skip; refine QV goPlace hP J J J J (Qq J J J (Q4 J J J J (Q4 J J J J (Qi 3 J J zvES J J J (Qd 5 J J J J J szES J J (Qv J J J (Qj (hK _ _ (Qz (Qy (Qy ?_))))))))))); clear hK K; refine Qx (fun K hK => ?_); refine Qq J J J (Xx J J J (Qj (hK _ _ (Qz ?_)))); clear hK K; refine X4 J (fun h1 => ?_) (fun h1 => ?_)
    · have h1' : pc = false := by simpa using h1
      rw [if_pos h1'] at hq; refine Qo (Qz (Qx fun K hK => ?_))
      refine Qk (iadd (by omega) (by omega)) J J J J ?_
      refine Qq J J J (Qj (hK _ _ (Q7 ?_))); clear hK K; refine XQ 3 (XQ 0 (Qb (i + 1, m) (by dsimp only; omega) ⟨by dsimp only; omega, by dsimp only; omega⟩ (by exact Qu J ⟨rfl, rfl, rfl, rfl, by simp only [Int.natCast_add]; rfl, trivial⟩)))
    · have h1' : pc = true := by simpa using h1
      rw [if_neg (by rw [h1']; decide)] at hq; refine QK (Qz (Qy (Qy (Qx fun K hK => ?_)))); refine Qq J J J (Qe (n := 5) J J J J J lES J (Ops.lookM2 (i := 8) (cv := adrF) (enc := esE) 0 sc J J J J (KeyIs.agg (us := esV sc) J) uMSeen z0Adr (fun _ _ => rfl) keyES J ?_)); generalize (look1 m sc).isSome = b at hq ⊢; generalize (look1 m sc).getD 0 = a at hq ⊢; refine Qq J J J (Q4 J J J J (Q4 J J J J (Qv J J J (Qv J J J (Qj (hK _ _ (Qz (Qy ?_)))))))); clear hK K; refine Qx (fun K hK => ?_); refine Qq J J J (Qq J J J (Xc 32 (b := b) J (fun h2 => ?_) (fun h2 => ?_)))
      · refine Qq J J J (QJ J J J fS11 J (Z4 J J fN0 J (QX J J J J J lAddr J (Qk ineq J J J J (Q3 J J J J (Qj (hK _ _ (Qz ?_)))))))); clear hK K; refine Q2 J (fun h3 => ?_) (fun h3 => ?_)
        · rw [if_pos ⟨h2, fun h => h3 (by rw [h])⟩] at hq; refine Qy (Qx fun K hK => ?_); refine Qq J J J (Qv J J J (Qj (hK _ _ (Qz (Q0 (QY (Q9 (QY (QY (Q9 (QY ?_))))))))))); clear hK K; refine QU [_] rfl (QQ J QZ) (by rw [hq]; rfl) J
        · rw [if_neg (fun h => h.2 (Fin.ext (by omega)))] at hq; refine QK (Qz (Qx fun K hK => ?_)); refine Qq J J J (Qe (n := 5) J J J J J lES J (QJ J J J fS11 J (Z4 J J fN0 J (QX J J J J J lAddr J (Xy (i := 8) (enc := esE) (cv := adrF) sc c.fr J J J (KeyIs.agg (us := esV sc) J) J uMSeen keyES (Qj (hK _ _ (Qz ?_)))))))); clear hK K; refine Qx (fun K hK => ?_)
          refine Qk (iadd (by omega) (by omega)) J J J J ?_
          refine Qq J J J (Qj (hK _ _ (Q7 ?_))); clear hK K; refine XQ 3 (XQ 0 (Qb (i + 1, ins m sc c.fr) (by dsimp only; omega) ⟨by dsimp only; omega, by dsimp only; omega⟩ (by exact Qu J ⟨rfl, rfl, rfl, rfl, by simp only [Int.natCast_add]; rfl, trivial⟩)))
      · rw [if_neg (fun h => by rw [h2] at h; cases h.1)] at hq; refine Qw J J J (Qw J J J (Qw J J J (Qw J J J (Qw J J J (Q6 J J J J (Qj (hK _ _ (Qz (Xu J (QK (Qz ?_))))))))))); clear hK K; refine Qx (fun K hK => ?_); refine Qq J J J (Qe (n := 5) J J J J J lES J (QJ J J J fS11 J (Z4 J J fN0 J (QX J J J J J lAddr J (Xy (i := 8) (enc := esE) (cv := adrF) sc c.fr J J J (KeyIs.agg (us := esV sc) J) J uMSeen keyES (Qj (hK _ _ (Qz ?_)))))))); clear hK K; refine Qx (fun K hK => ?_)
        refine Qk (iadd (by omega) (by omega)) J J J J ?_
        refine Qq J J J (Qj (hK _ _ (Q7 ?_))); clear hK K; refine XQ 3 (XQ 0 (Qb (i + 1, ins m sc c.fr) (by dsimp only; omega) ⟨by dsimp only; omega, by dsimp only; omega⟩ (by exact Qu J ⟨rfl, rfl, rfl, rfl, by simp only [Int.natCast_add]; rfl, trivial⟩)))
  · have hi' : i = l.length := by omega
    rw [hi', List.drop_length] at hq; simp only [clashG, Nat.add_zero] at hq; refine Qo (Qz (Qy (Qx fun K hK => ?_))); refine Qq J J J (Qh J J sRes.und (List.length_map ..) J (Qv J J J (Qj (hK _ _ (Qz (Q0 ?_)))))); clear hK K; refine QU [_] rfl (QQ J QZ) (by rw [hq]; rfl) J
theorem witG_loop {p : Rs → Bool} {z : Rs} : ∀ (l : List Rs) (i : Nat), (∀ j, j < i → j < l.length → p (l.getD j z) = false) → i ≤ l.length → l.findIdx? p = ((l.drop i).findIdx? p).map (· + i)
  | [], i, _, h => by
    have : i = 0 := by simpa using h
    subst this; rfl
  | a :: l, 0, _, _ => by simp
  | a :: l, i + 1, h, hi => by
    have h0 : p a = false := h 0 (Nat.succ_pos _) (Nat.succ_pos _)
    have ih := witG_loop l i (fun j h1 h2 => h (j + 1) (by omega) (by simpa using h2)) (by simpa using hi)
    rw [List.findIdx?_cons, h0, ih]
    simp only [List.drop_succ_cons, Bool.false_eq_true, if_false, Option.map_map, Function.comp_def]
    rfl
abbrev witC (o : List Rs) : List CT := match witG o with
  | some i => [ikC (idOf (o.getD i rs0)), ikC (idOf (o.getD (clashG [] o) rs0)), boolC true]
  | none => [ikC ⟨0, 0, 0⟩, ikC ⟨0, 0, 0⟩, boolC false]
theorem goWitness : InGo Tryz.prog 105 := InGo.of Tryz.func105 rfl (by decide)
theorem take_getD {l : List Rs} {z : Rs} {k i : Nat} (h : i < k) : (l.take k).getD i z = l.getD i z := by
  rw [List.getD_eq_getElem?_getD, List.getElem?_take_of_lt h, ← List.getD_eq_getElem?_getD]
theorem fidx_drop {p : Rs → Bool} {z : Rs} {l : List Rs} {k i : Nat} (hk : k ≤ l.length) (hi : i ≤ k) (h : ∀ j, j < i → p (l.getD j z) = false) : (l.take k).findIdx? p = (((l.take k).drop i).findIdx? p).map (· + i) := by
  refine witG_loop (z := z) (l.take k) i (fun j h1 h2 => ?_) (by rw [List.length_take]; omega); rw [List.getD_eq_getElem?_getD, List.getElem?_take_of_lt (by rw [List.length_take] at h2; omega), ← List.getD_eq_getElem?_getD]; exact h j h1
set_option maxHeartbeats 4000000 in
theorem Witness_ok (l : List Rs) (hl : l.length ≤ 10000) : Ok Tryz.prog 105 [rssC l] (.fr (tupT (witC (sd cmpR (l.filter okR))))) := by
  have hO := Order_ok l hl
  have hol : (sd cmpR (l.filter okR)).length ≤ 10000 := by
    have := sd_len cmpR (l.filter okR); have := List.length_filter_le okR l; omega
  generalize sd cmpR (l.filter okR) = o at hO hol ⊢; have hC := Clash_ok o (by omega); have hle := clashG_le o []
  have ew : witG o = if clashG [] o < o.length then (o.take (clashG [] o)).findIdx? (fun a => conB a (o.getD (clashG [] o) rs0)) else none := rfl
  have eC : (CT.fr (tupT (witC o))) = .fr (tupT (match witG o with
    | some i => [ikC (idOf (o.getD i rs0)), ikC (idOf (o.getD (clashG [] o) rs0)), boolC true]
    | none => [ikC ⟨0, 0, 0⟩, ikC ⟨0, 0, 0⟩, boolC false])) := rfl
  rw [eC]; clear eC; generalize clashG [] o = k at hC hle ew ⊢; generalize witG o = wt at ew ⊢
  refine Ok.enter Tryz.func105 J _ Tryz.ntmps105 J ?_
  intro S w; refine Qy (Qx fun K hK => ?_); refine Qi 0 J J zvID J J J (Qi 1 J J zvID J J J (Qv J J J (Qj (hK _ _ (Qz (Qy ?_)))))); clear hK K; refine Qx (fun K hK => ?_); refine Qq J J J (Zh 3 goOrder hO J J J J J J (ZV 3 _ J (rss_frozen _ _) noBor_sub (Qv J J J (Qj (hK _ _ (Qz (Qy ?_))))))); clear hK K; refine Qx (fun K hK => ?_); refine Qq J J J (QV goClash hC J J J J (Qv J J J (Qj (hK _ _ (Qz (Qy (Qy ?_))))))); clear hK K; refine Qx (fun K hK => ?_); refine Qv J J J (Qj (hK _ _ (Qz (Q5 ?_)))); clear hK K
  refine Qs (α := Nat) (fun i => i ≤ k ∧ (k < o.length → ∀ j, j < i → conB (o.getD j rs0) (o.getD k rs0) = false))
    (fun i => [(2, .own 0), (3, .own 1), (5, .ct (rssC o)), (6, .ct (intC k)), (7, .ct (intC i))]) (fun _ => [(1, .box 82 (ikCs ⟨0, 0, 0⟩)), (0, .box 82 (ikCs ⟨0, 0, 0⟩))]) (fun i => k - i) 0 ⟨Nat.zero_le _, fun _ j hj => by omega⟩ (by exact Qu J ⟨rfl, rfl, rfl, rfl, rfl, trivial⟩) ?_
  intro i ⟨hi, hq⟩
  try dsimp only
  refine Qy (Qy (Qx fun K hK => ?_)); refine Qq J J J (Qq J J J (Qk ilss J J J J (Qq J J J (Qf 15 (p := (i : Int) < k) J (fun h => ?_) (fun h => ?_)))))
  · refine Qq J J J (Qq J J J (Qh J J sRes.und (List.length_map ..) J (Qk ilss J J J J (Q3 J J J J (Qj (hK _ _ (Qz ?_))))))); clear hK K; refine Q2 J (fun h2 => ?_) (fun h2 => ?_)
    · have hk : k < o.length := by omega
      rw [if_pos hk, fidx_drop (i := i) hle hi (hq hk)] at ew; have e1 : (i : Int).toNat = i := Int.toNat_natCast i; have e2 : (k : Int).toNat = k := Int.toNat_natCast k; rw [drop_getD (z := rs0) (show i < (o.take k).length by rw [List.length_take]; omega), take_getD (by omega), List.findIdx?_cons] at ew; have hCo := Contradict_ok (o.getD i rs0) (o.getD k rs0)
      have hn : conB (o.getD i rs0) (o.getD k rs0) = false → ∀ j, j < i + 1 → conB (o.getD j rs0) (o.getD k rs0) = false := fun h j hj => by
        rcases Nat.lt_or_ge j i with h3 | h3
        · exact hq hk j h3
        · have : j = i := by omega
          rw [this]; exact h
      generalize conB (o.getD i rs0) (o.getD k rs0) = cb at hCo hn ew; have hA := Identity_ok (o.getD i rs0); have hB := Identity_ok (o.getD k rs0); refine QK (Qz (Qy (Q5 (Qy ?_)))); refine Xw mixed 9 (.p 0 (.p 1 (.p 2 (.p 4 (.p 5 (.p 6 (.f 3 (.f 7 (.m 8 .done))))))))) (by kernel_rfl) (fun K hK => ?_); refine Qq J J J (Qq J J J (Xz J J J sRes (by omega) (Y6 (by omega) (by omega)) J ?_)); refine Qq J J J (Qq J J J (Xz J J J sRes (by omega) (Y6 (by omega) (by omega)) J ?_)); refine Xe (n := 17) J J J lRes J J (Xe (n := 17) J J J lRes J J ?_); rw [e1, e2]; skip; refine QV goContradict hCo J J J J (Qj (hK _ _ (Qz ?_))); clear hK K; refine X4 J (fun h3 => ?_) (fun h3 => ?_)
      · rw [if_pos h3] at ew; simp only [Option.map_some, Nat.zero_add] at ew; refine Qy (Xw mixed 10 (.p 0 (.p 1 (.p 2 (.p 5 (.p 6 (.p 7 (.f 3 (.fork 4 (.m 8 (.m 9 (.a 10 (.a 11 (.p 12 .done))))) 8 (.m 4 (.m 9 (.a 10 (.a 11 (.p 12 .done))))))))))))) (by kernel_rfl) (fun K hK => ?_)); refine Qq J J J (Qq J J J (Xz J J J sRes (by omega) (Y6 (by omega) (by omega)) J ?_)); refine Qq J J J (Qq J J J (Xz J J J sRes (by omega) (Y6 (by omega) (by omega)) J ?_))
        refine Xe (n := 17) J J J lRes J J ?_
        rw [e1]; skip
        refine Ops.fork ?_ ?_
        · refine QV goIdentity hA J J J J (Xe (n := 17) J J J lRes J J ?_); rw [e2]; skip
          refine QV goIdentity hB J J J J ?_
          skip; refine Qd 3 J J J J J szID J J (Qd 3 J J J J J szID J J (Qv J J J (Qj (hK _ _ (Qz (Q0 (Q9 (QY (QY (Q9 (QY ?_))))))))))); clear hK K; refine QU [_, _, _] rfl (Qg (n := 3) J J lID J (Qg (n := 3) J J lID J (QQ J QZ))) (by rw [ew]; rfl) J
        · refine Xe (n := 17) J J J lRes J J ?_
          rw [e2]; skip
          refine QV goIdentity hA J J J J ?_
          skip
          refine QV goIdentity hB J J J J ?_
          skip; refine Qd 3 J J J J J szID J J (Qd 3 J J J J J szID J J (Qv J J J (Qj (hK _ _ (Qz (Q0 (Q9 (QY (QY (Q9 (QY ?_))))))))))); clear hK K; refine QU [_, _, _] rfl (Qg (n := 3) J J lID J (Qg (n := 3) J J lID J (QQ J QZ))) (by rw [ew]; rfl) J
      · refine QK (Qz (Qx fun K hK => ?_)); refine Qq J J J (Qk (iadd (by omega) (by omega)) J J J J ?_); refine Qv J J J (Qj (hK _ _ (Q7 ?_))); clear hK K; refine Qb (i + 1) (by omega) ⟨by omega, fun _ => hn h3⟩ (by exact Qu J ⟨rfl, rfl, rfl, rfl, by simp only [Int.natCast_add]; rfl, trivial⟩)
    · rw [if_neg (by omega)] at ew; refine Qo (Qz (Qy (Qx fun K hK => ?_))); refine Qp J bID' J .nil J (Qp J bID' J .nil J (Qd 3 J J J J J szID J J (Qd 3 J J J J J szID J J (Qv J J J (Qj (hK _ _ (Qz (Q0 ?_)))))))); clear hK K; refine QU [_, _, _] rfl (Qg (n := 3) J J lID J (Qg (n := 3) J J lID J (QQ J QZ))) (by rw [ew]; rfl) J
  · have ew : wt = none := by
      rw [ew]; split
      · rename_i hk
        rw [fidx_drop (i := i) hle hi (hq hk), show i = k by omega, List.drop_of_length_le (by rw [List.length_take]; omega)]; rfl
      · rfl
    refine Qw J J J (Qw J J J (Qw J J J (Qw J J J (Q6 J J J J (Qj (hK _ _ (Qz (Xu J (Qo (Qz (Qy ?_))))))))))); clear hK K; refine Qx (fun K hK => ?_); refine Qp J bID' J .nil J (Qp J bID' J .nil J (Qd 3 J J J J J szID J J (Qd 3 J J J J J szID J J (Qv J J J (Qj (hK _ _ (Qz (Q0 ?_)))))))); clear hK K; refine QU [_, _, _] rfl (Qg (n := 3) J J lID J (Qg (n := 3) J J lID J (QQ J QZ))) (by rw [ew]; rfl) J
theorem goConsistent : InGo Tryz.prog 60 := InGo.of Tryz.func60 rfl (by decide)
def consB (l : List Rs) : Bool := (witG (sd cmpR (l.filter okR))).isNone
theorem Consistent_ok (l : List Rs) (hl : l.length ≤ 10000) : Ok Tryz.prog 60 [rssC l] (boolC (consB l)) := by
  have hW := Witness_ok l hl; have e0 : consB l = (witG (sd cmpR (l.filter okR))).isNone := rfl
  have hw : ∃ i j : Ik, witC (sd cmpR (l.filter okR)) = [ikC i, ikC j, boolC (!consB l)] := by
    rw [e0]; unfold witC
    cases witG (sd cmpR (l.filter okR)) <;> exact ⟨_, _, rfl⟩
  obtain ⟨a, b, hw⟩ := hw; rw [hw] at hW; generalize consB l = c at hW ⊢
  refine Ok.enter Tryz.func60 J _ Tryz.ntmps60 J ?_
  intro S w; refine Qy (Qx fun K hK => ?_); refine Qv J J J (Qj (hK _ _ (Qz (Qy ?_)))); clear hK K; refine Qx (fun K hK => ?_); refine Qq J J J (QV goWitness hW J J J J (Qq J J J (Q4 J J J J (Q4 J J J J (Q4 J J J J (Qi 0 J J zvID J J J (Qi 1 J J zvID J J J (Qd 3 J J J J J szID J J (Qd 3 J J J J J szID J J (Qv J J J (Qj (hK _ _ (Qz (Qy ?_)))))))))))))); clear hK K; refine Qx (fun K hK => ?_); refine Qq J J J (Xx J J J (Qv J J J (Qj (hK _ _ (Qz (Q0 ?_)))))); clear hK K; refine QU [_] rfl (QQ J QZ) (by rw [Bool.not_not]; rfl) J
end Go.Proofs.YtojkdfilabmafaaGreat
namespace Go.Proofs.YtojkdfilabmafaaGreat
open Go.Own Go.Limbs
def chkF (l : List Rs) : Int := if (l.any fun r => !okR r) = true then 1 else if 512 < ((sd cmpR (l.filter okR)).length : Int) then 5 else if consB l = true then 0 else 30
def crsF (l : List Rs) (w : Wr) (b : Bool) : List Rs := (sd cmpR (l.filter okR)).filter fun r => decide (w ∈ wayF l r) && (r.an == b)
structure Cn where
  wr : Wr
  se : Int
  lo : Int
  hi : Int
deriving DecidableEq
def cn0 : Cn := ⟨(0, 0), 0, 0, 0⟩
def cntF (l : List Rs) (w : Wr) (b : Int) : Cn × Int :=
  if b < 0 ∨ 1048576 < b then (cn0, 1)
  else if chkF l ≠ 0 then (cn0, chkF l)
  else if (crsF l w true).length + (crsF l w false).length = 0 then (cn0, 8)
  else (⟨w, ((crsF l w true).length : Int) + (crsF l w false).length, max 0 ((crsF l w false).length - b), (crsF l w false).length⟩, 0)
def adN (t : Int) : Fin 4294967296 := ⟨t.toNat % 4294967296, Nat.mod_lt _ (by decide)⟩
theorem adN_val {t : Int} (h : 0 ≤ t) (h2 : t < 4294967296) : ((adN t).val : Int) = t := by unfold adN; simp only; omega
def chF : Nat → Int → List (Fin 4294967296)
  | 0, _ => []
  | c + 1, t => adN t :: chF c (t + 1)
structure Chain (n : Nat) (t0 : Tk) (l : List Rs) : Prop where
  up : Up cmpR l
  ok : ∀ r ∈ l, okR r = true ∧ r.db = false ∧ r.fl = 0 ∧ trOf r = t0 ∧ 1 ≤ r.tt ∧ r.tt ≤ n ∧ (r.an = true → r.ki = 1 ∧ r.fr = adN r.tt)
  all : ∀ t : Int, 1 ≤ t → t ≤ n → ∃ r ∈ l, r.an = true ∧ r.tt = t
variable {n : Nat} {t0 : Tk} {l : List Rs}
theorem endF_zero : ∀ (l : List Rs) (e : Int), (∀ r ∈ l, fiR r = false) → l.foldl endS e = e
  | [], _, _ => rfl
  | r :: l, e, h => by
    have h1 : endS e r = e := by unfold endS; rw [if_neg (by rw [h r (List.mem_cons_self ..)]; simp)]
    rw [List.foldl_cons, h1]
    exact endF_zero l e fun x hx => h x (List.mem_cons_of_mem _ hx)
abbrev stV (m : AdM × StM) (t : Int) : Int := (look1 m.2 (0, t)).getD 0
def invM (m : AdM × StM) : Prop := ∀ t : Int, stV m t ≤ 1 ∨ (stV m t = 2 ∧ look1 m.1 (0, t) = some (adN t))
theorem look_chain : ∀ (q : List Rs) (m : AdM × StM), (∀ r ∈ q, usR r = true ∧ r.fl = 0 ∧ (r.an = true → r.fr = adN r.tt)) → invM m →
    invM (q.foldl (lookS 0) m) ∧ ∀ t, (stV m t = 2 ∨ ∃ r ∈ q, r.an = true ∧ r.tt = t) → stV (q.foldl (lookS 0) m) t = 2
  | [], m, _, hm => ⟨hm, fun t h => h.elim id fun ⟨_, h, _⟩ => by cases h⟩
  | r :: q, m, hq, hm => by
    obtain ⟨h1, h2, h3⟩ := hq r (List.mem_cons_self ..)
    have key : invM (lookS 0 m r) ∧ ∀ t, (stV m t = 2 ∨ (r.an = true ∧ r.tt = t)) → stV (lookS 0 m r) t = 2 := by
      unfold lookS; rw [if_neg (by rw [h1]; simp), h2]
      cases ha : r.an with
      | false =>
        rw [if_pos J]; refine ⟨fun t => ?_, fun t h => ?_⟩
        · simp only [stV, look1_ins]; have := hm t; by_cases e : t = r.tt
          · subst e; rw [if_pos J]; simp only [Option.getD_some]; unfold stV at this; rcases this with h | ⟨h, h'⟩
            · left; omega
            · right; exact ⟨by omega, h'⟩
          · rw [if_neg (by intro h; injection h with _ h; exact e h)]; exact this
        · simp only [stV, look1_ins]; rcases h with h | ⟨h, _⟩
          · by_cases e : t = r.tt
            · subst e; rw [if_pos J]; simp only [Option.getD_some]; unfold stV at h; omega
            · rw [if_neg (by intro h; injection h with _ h; exact e h)]; exact h
          · cases h
      | true =>
        rw [if_neg (by decide)]; have h4 := h3 ha; have hr := hm r.tt; unfold stV at hr; by_cases hs : (look1 m.2 (0, r.tt)).getD 0 ≤ 1
        · rw [if_pos hs]; refine ⟨fun t => ?_, fun t h => ?_⟩
          · simp only [stV, look1_ins]; by_cases e : t = r.tt
            · subst e; rw [if_pos J, if_pos J, h4]; right; exact ⟨rfl, rfl⟩
            · rw [if_neg (by intro h; injection h with _ h; exact e h), if_neg (by intro h; injection h with _ h; exact e h)]; exact hm t
          · simp only [stV, look1_ins]; by_cases e : t = r.tt
            · subst e; rw [if_pos rfl]; rfl
            · rw [if_neg (by intro h; injection h with _ h; exact e h)]; rcases h with h | ⟨_, h⟩
              · exact h
              · exact absurd h.symm e
        · rw [if_neg hs]; rcases hr with hr | ⟨hr, hr'⟩
          · exact absurd hr hs
          · rw [if_neg (by rw [hr', h4]; simp)]; refine ⟨hm, fun t h => ?_⟩; rcases h with h | ⟨_, h⟩
            · exact h
            · subst h; exact hr
    obtain ⟨k1, k2⟩ := key; obtain ⟨i1, i2⟩ := look_chain q (lookS 0 m r) (fun x hx => hq x (List.mem_cons_of_mem _ hx)) k1; refine ⟨i1, fun t h => i2 t ?_⟩; rcases h with h | ⟨x, hx, h⟩
    · exact .inl (k2 t (.inl h))
    · rcases List.mem_cons.1 hx with rfl | hx
      · exact .inl (k2 t (.inr h))
      · exact .inr ⟨x, hx, h⟩
theorem Chain.us (h : Chain n t0 l) {r : Rs} (hr : r ∈ l) : usR r = true := by
  obtain ⟨h1, h2, _⟩ := h.ok r hr; unfold usR; rw [h1, h2]; rfl
theorem Chain.fi (h : Chain n t0 l) : ∀ r ∈ l, fiR r = false := fun r hr => by
  obtain ⟨_, _, _, _, _, _, h3⟩ := h.ok r hr
  unfold fiR
  cases ha : r.an with
  | false => rfl
  | true => rw [(h3 ha).1]; rfl
theorem Chain.look (h : Chain n t0 l) : lookG l = l.foldl (lookS 0) ([], []) := by
  have h1 : endF l = 0 := endF_zero l 0 h.fi; unfold lookG; rw [h1]
theorem pathG_chain {m : AdM × StM} (h1 : ∀ t : Int, 1 ≤ t → t ≤ n → stV m t = 2 ∧ look1 m.1 (0, t) = some (adN t)) (h2 : hasS m.2 0 (n + 1) = false) :
    ∀ (c k : Nat) (t : Int), 1 ≤ t → t + c = n + 1 → c < k → pathG m 0 k t = chF c t
  | 0, k + 1, t, _, he, _ => by
    unfold pathG
    have : t = (n : Int) + 1 := by omega
    rw [this, h2]; rfl
  | c + 1, k + 1, t, ht, he, hk => by
    obtain ⟨a1, a2⟩ := h1 t ht (by omega)
    have : hasS m.2 0 t = true := by unfold hasS; unfold stV at a1; rw [a1]; rfl
    unfold pathG chF
    rw [if_pos this, a2, pathG_chain h1 h2 c k (t + 1) (by omega) (by omega) (by omega)]
    rfl
  | _, 0, _, _, _, h => by omega
theorem Chain.path (h : Chain n t0 l) (hn : n < 256) : pathF l 0 = chF n 1 := by
  unfold pathF; obtain ⟨i1, i2⟩ := look_chain l ([], []) (fun r hr => ⟨h.us hr, (h.ok r hr).2.2.1, fun ha => ((h.ok r hr).2.2.2.2.2.2 ha).2⟩) (fun t => .inl (by show (0 : Int) ≤ 1; decide)); rw [← h.look] at i1 i2
  refine pathG_chain (n := n) (fun t h1 h2 => ?_) ?_ n 256 1 (by decide) (by omega) hn
  · have e := i2 t (.inr (h.all t h1 h2)); refine ⟨e, ?_⟩; rcases i1 t with h3 | h3
    · rw [e] at h3; exact absurd h3 (by decide)
    · exact h3.2
  · cases hb : hasS (lookG l).2 0 (n + 1) with
    | false => rfl
    | true =>
      unfold hasS at hb
      cases e : look1 (lookG l).2 (0, (n : Int) + 1) with
      | none => rw [e] at hb; simp at hb
      | some v =>
        obtain ⟨_, r, hr, _, hs⟩ := lookG_keys l _ _ e
        injection hs with _ hs
        have := (h.ok r hr).2.2.2.2.2.1; omega
theorem Chain.sd (h : Chain n t0 l) : sd cmpR (l.filter okR) = l := by
  have : l.filter okR = l := List.filter_eq_self.2 fun r hr => (h.ok r hr).1
  rw [this]; exact sd_eq ordR h.up
def wk (k : Int) : Wr := (adN (k - 1), adN k)
theorem clash_chain : ∀ (q : List Rs) (m : SeenM), (∀ r ∈ q, r.an = true → r.fr = adN r.tt) → (∀ s v, look1 m s = some v → v = adN s.2.2) → clashG m q = q.length
  | [], _, _, _ => rfl
  | r :: q, m, hq, hm => by
    have ih := fun m' => clash_chain q m' fun x hx => hq x (List.mem_cons_of_mem _ hx)
    unfold clashG
    rw [List.length_cons]
    by_cases hp : plB r = false
    · rw [if_pos hp, ih m hm]
    · rw [if_neg hp]
      have ha : r.an = true := by
        unfold plB at hp
        cases h : r.an with
        | true => rfl
        | false => rw [h] at hp; exact absurd J hp
      have hr := hq r (List.mem_cons_self ..) ha; rw [if_neg, ih]
      · intro s v hs; rw [look1_ins] at hs; split at hs
        · rename_i e; subst e; injection hs with hs; rw [← hs]; exact hr
        · exact hm s v hs
      · rintro ⟨h1, h2⟩
        obtain ⟨v, hv⟩ := Option.isSome_iff_exists.1 h1; rw [hv] at h2; exact h2 (by rw [hr]; exact hm _ v hv)
theorem Chain.cons (h : Chain n t0 l) : consB l = true := by
  unfold consB witG; rw [h.sd, clash_chain l [] (fun r hr ha => ((h.ok r hr).2.2.2.2.2.2 ha).2) (fun _ _ h => by cases h)]; simp
theorem Chain.chk (h : Chain n t0 l) (hl : l.length ≤ 512) : chkF l = 0 := by
  unfold chkF; rw [if_neg, h.sd, if_neg (by omega), if_pos h.cons]; intro h'; obtain ⟨r, hr, h1⟩ := List.any_eq_true.1 h'; rw [(h.ok r hr).1] at h1; cases h1
def mkX (o k t w : Int) : Rs := ⟨0, 0, k, 10 * k, 9, 17, 0, t, decide (w = 0), false, 10 * k + o, if w = 0 then adN t else 0, if w = 0 then 1 else 0, 0, 0, 0, 0⟩
def xF (o : Int) : Int → List (Int × Int) → List Rs
  | _, [] => []
  | i, p :: d => mkX o i p.1 p.2 :: xF o (i + 1) d
theorem cmpL_lt {x y : Int} {xs ys : List Int} (h : x < y) : cmpL (x :: xs) (y :: ys) < 0 := by
  have h1 : cmp3 x y = -1 := by unfold cmp3; rw [if_pos h]
  have h2 : cmpL (x :: xs) (y :: ys) = if cmp3 x y ≠ 0 then cmp3 x y else cmpL xs ys := rfl
  rw [h2, if_pos (by rw [h1]; decide), h1]; decide
def x0T : Tk := ⟨0, 9, 17⟩
end Go.Proofs.YtojkdfilabmafaaGreat
namespace Go.Proofs.YtojkdfilabmafaaGreat
open Go.Own Go.Limbs Go.Shelf
open Go.Sort hiding Ok
attribute [local irreducible] St Ops Go.Own.Fin Ok OkB OkN OkT OkL OkF OkM
def wsA (l : List Me) : List Wr := l.flatMap fun x => x.2
def vrF (l : List Rs) : List Wr := sd cmpW (wsA (msF l))
def vrO (l : List Rs) : List Wr × Int := if ¬ chkF l = 0 then ([], chkF l) else if 16 < ((vrF l).length : Int) then ([], 5) else (vrF l, 0)
theorem me_wires (l : List Rs) : ∀ x ∈ msF l, x.2.length ≤ 256 := fun x hx => by
  obtain ⟨r, hr, rfl⟩ := List.mem_map.1 hx
  show (wsO _).1.length ≤ 256
  unfold wsO
  have hp : (paF l r).length ≤ 256 := pathF_len _ _
  split
  · rw [wsG_len, List.length_take]; omega
  · exact Nat.zero_le _
theorem wsA_len : ∀ (l : List Me), (∀ x ∈ l, x.2.length ≤ 256) → (wsA l).length ≤ l.length * 256
  | [], _ => Nat.le_refl _
  | x :: l, h => by
    have h1 := wsA_len l fun y hy => h y (List.mem_cons_of_mem _ hy)
    have h2 := h x (List.mem_cons_self ..)
    have e : wsA (x :: l) = x.2 ++ wsA l := by simp [wsA]
    rw [e, List.length_append, List.length_cons, Nat.succ_mul]
    omega
theorem lWrs1 : Ld1 Tryz.prog 25 := Ld1.of _ Tryz.underlying25 rfl
theorem wrs_ones (l : List Wr) : ones (wrs l) = true := el_ones (fun _ => rfl) l
theorem goVar1 : InGo Tryz.prog 57 := InGo.of Tryz.func57 rfl (by decide)
theorem Var1_ok (r : Rs) : Ok Tryz.prog 57 [rsC r] (boolC (!okR r)) := by
  refine Ok.enter Tryz.func57 rfl _ Tryz.ntmps57 rfl ?_
  intro S w
  (refine Qy (Qx fun K hK => ?_); refine XX 0 rfl rfl rfl rfl rfl rfl rfl ?_; refine Qv rfl rfl rfl ?_; refine Qj (hK _ _ (Qz (Qy ?_))); clear hK K; refine Qx (fun K hK => ?_); refine Qe (n := 17) rfl rfl rfl rfl rfl (by with_reducible exact lRes) rfl ?_)
  refine QV goValidR (ValidR_ok r) rfl rfl rfl rfl ?_
  (refine Xx rfl rfl rfl ?_; refine Qv rfl rfl rfl ?_; refine Qj (hK _ _ (Qz (Q0 ?_))); clear hK K)
  refine QU [_] rfl (QQ rfl QZ) rfl rfl
theorem goVariables : InGo Tryz.prog 27 := InGo.of Tryz.func27 rfl (by decide)
set_option maxHeartbeats 8000000 in
theorem Variables_ok (l : List Rs) (hl : l.length ≤ 10000) : Ok Tryz.prog 27 [rssC l] (.fr (tupT [wrsC (vrO l).1, intC (vrO l).2])) := by
  have hC := ContainsFunc_res l _ (fun r => !okR r) goVar1 (fun x _ => Var1_ok x) (by omega)
  have hO := Order_ok l hl
  have hN := Consistent_ok l hl
  have hM := measures_ok l hl
  have e : vrO l = if ¬ chkF l = 0 then ([], chkF l) else if 16 < ((vrF l).length : Int) then ([], 5) else (vrF l, 0) := rfl
  have e1 : chkF l = if (l.any fun r => !okR r) = true then 1 else if 512 < ((sd cmpR (l.filter okR)).length : Int) then 5 else if consB l = true then 0 else 30 := rfl
  have e2 : vrF l = dd ((wsA (msF l)).mergeSort fun x y => !(ltOf cmpW) y x) := rfl
  have hol : (sd cmpR (l.filter okR)).length ≤ 10000 := by
    have := sd_len cmpR (l.filter okR)
    have := List.length_filter_le okR l
    omega
  have hml : (msF l).length ≤ 10000 := by
    unfold msF
    rw [List.length_map]
    exact Nat.le_trans (List.length_filter_le _ _) hol
  have hmw := me_wires l
  generalize vrO l = out at e ⊢
  generalize vrF l = vr at e e2
  generalize chkF l = c at e e1
  generalize (l.any fun r => !okR r) = b1 at hC e1
  generalize sd cmpR (l.filter okR) = o at hO e1 hol
  generalize consB l = b3 at hN e1
  generalize msF l = ms at hM e2 hml hmw
  refine Ok.enter Tryz.func27 rfl _ Tryz.ntmps27 rfl ?_
  intro S w
  (refine Qy (Qx fun K hK => ?_); refine Qv rfl rfl rfl ?_; refine Qv rfl rfl rfl ?_; refine Qj (hK _ _ (Qz (Qy (Q5 (Qy ?_))))); clear hK K; refine Qx (fun K hK => ?_); refine Qq rfl rfl rfl ?_)
  refine QV goContainsFunc_res hC rfl rfl rfl rfl ?_
  (refine Qv rfl rfl rfl ?_; refine Qj (hK _ _ (Qz ?_)); clear hK K)
  refine X4 rfl (fun h => ?_) (fun h => ?_)
  · rw [if_pos h] at e1
    rw [if_pos (by rw [e1]; decide), e1] at e
    (refine Qy (Qx fun K hK => ?_); refine Qv rfl rfl rfl ?_; refine Qv rfl rfl rfl ?_; refine Qj (hK _ _ (Qz (Q0 (Q9 (QY ?_))))); clear hK K)
    refine QU [_, _] rfl (Xa Y3 (QQ rfl (QQ rfl QZ))) (by rw [e]; rfl) rfl
  rw [if_neg (by rw [h]; decide)] at e1
  (refine Qy (Qx fun K hK => ?_); refine Qq rfl rfl rfl ?_)
  refine Zh 3 goOrder hO rfl rfl rfl rfl rfl rfl ?_
  refine ZV 3 _ rfl (rss_frozen _ _) noBor_sub ?_
  (refine Qh rfl rfl (by with_reducible exact sRes.und) (List.length_map ..) rfl ?_; refine Qk igtr rfl rfl rfl rfl ?_; refine Qv rfl rfl rfl ?_; refine Qj (hK _ _ (Qz ?_)); clear hK K)
  refine Q2 rfl (fun h2 => ?_) (fun h2 => ?_)
  · rw [if_pos h2] at e1
    rw [if_pos (by rw [e1]; decide), e1] at e
    (refine Qy (Qx fun K hK => ?_); refine Qv rfl rfl rfl ?_; refine Qv rfl rfl rfl ?_; refine Qj (hK _ _ (Qz (Q0 (Q9 (QY ?_))))); clear hK K)
    refine QU [_, _] rfl (Xa Y3 (QQ rfl (QQ rfl QZ))) (by rw [e]; rfl) rfl
  rw [if_neg h2] at e1
  (refine Qy (Qx fun K hK => ?_); refine Qq rfl rfl rfl ?_)
  refine QV goConsistent hN rfl rfl rfl rfl ?_
  (refine Xx rfl rfl rfl ?_; refine Qv rfl rfl rfl ?_; refine Qj (hK _ _ (Qz ?_)); clear hK K)
  refine X4 rfl (fun h3 => ?_) (fun h3 => ?_)
  · rw [if_neg (by simpa using h3)] at e1
    rw [if_pos (by rw [e1]; decide), e1] at e
    (refine Qy (Qx fun K hK => ?_); refine Qv rfl rfl rfl ?_; refine Qv rfl rfl rfl ?_; refine Qj (hK _ _ (Qz (Q0 (Q9 (QY ?_))))); clear hK K)
    refine QU [_, _] rfl (Xa Y3 (QQ rfl (QQ rfl QZ))) (by rw [e]; rfl) rfl
  rw [if_pos (by simpa using h3)] at e1
  rw [if_neg (fun h => h e1)] at e
  (refine QK (Qz (Qy (Qx fun K hK => ?_))); refine Qv rfl rfl rfl ?_; refine Qj (hK _ _ (Qz (Qy (Qy ?_)))); clear hK K; refine Qx (fun K hK => ?_); refine Qq rfl rfl rfl ?_)
  refine QV gomeasures hM rfl rfl rfl rfl ?_
  refine Qh rfl rfl (by with_reducible exact sMes.und) (List.length_map ..) rfl ?_
  (refine Qq rfl rfl rfl ?_; refine Qj (hK _ _ (Qz (Q5 ?_))); clear hK K)
  refine Zo 4 0 37 2 rfl rfl rfl ?_
  refine Qs (α := Nat) (fun i => i ≤ ms.length)
    (fun i => [(4, .own 0), (20, .ct (mesC ms)), (21, .ct (intC ms.length)), (22, .ct (intC i))])
    (fun i => [(0, .row 37 2 (wrs (wsA (ms.take i))))]) (fun i => ms.length - i) 0 (Nat.zero_le _) (by exact Qu rfl ⟨rfl, rfl, rfl, rfl, trivial⟩) ?_
  intro i hi
  try dsimp only at hi ⊢
  (refine Qy (Qx fun K hK => ?_); refine Qk ilss rfl rfl rfl rfl ?_; refine Qj (hK _ _ (Qz (Qy ?_))); clear hK K)
  refine Q2 rfl (fun h4 => ?_) (fun h4 => ?_)
  · have e4 : (i : Int).toNat = i := Int.toNat_natCast i
    have hs : wsA (ms.take (i + 1)) = wsA (ms.take i) ++ (ms.getD i me0).2 := by
      unfold wsA
      rw [List.take_add_one, List.getElem?_eq_getElem (by omega), List.getD_eq_getElem?_getD, List.getElem?_eq_getElem (by omega), List.flatMap_append]
      simp
    have hwl := wsA_len (ms.take i) fun x hx => hmw x (List.mem_of_mem_take hx)
    rw [List.length_take] at hwl
    have hwl : (wsA (ms.take i)).length ≤ 2560000 := by omega
    have hx2 := hmw (ms.getD i me0) (by rw [List.getD_eq_getElem?_getD, List.getElem?_eq_getElem (by omega)]; exact List.getElem_mem _)
    (refine QK (Qz (Qy (Q5 (Qy (Qx fun K hK => ?_))))))
    refine Xz rfl rfl rfl (by with_reducible exact sMes) (by omega) (mes_at (by omega) (by omega)) rfl ?_
    rw [e4]
    generalize ms.getD i me0 = x at hs hx2
    generalize wsA (ms.take i) = q at hs hwl ⊢
    obtain ⟨r, ws⟩ := x
    dsimp only at hs hx2
    refine Xe (n := 18) rfl rfl rfl (by with_reducible exact lMe) rfl rfl ?_
    refine Qi 1 rfl rfl (by with_reducible exact zvMe) rfl rfl rfl ?_
    refine Qd 18 rfl rfl rfl rfl rfl (by with_reducible exact szMe) rfl rfl ?_
    (refine Qj (hK _ _ (Qz ?_)); clear hK K; refine Qx (fun K hK => ?_); refine Qq rfl rfl rfl ?_)
    refine QJ rfl rfl rfl (by with_reducible exact fMe1) rfl ?_
    refine QX rfl rfl rfl rfl rfl (by with_reducible exact lWrs1) rfl ?_
    have hx3 : (ws.map wrCs).length ≤ 256 := by rw [List.length_map]; exact hx2
    refine Ops.append q.length (wrs (q ++ ws)) rfl rfl rfl rfl (by with_reducible exact sWrs) (wrs_len q) (wrs_ones ws) (by show (q.length + (ws.map wrCs).length) * 8 ≤ _; omega) (by show q.length + (ws.map wrCs).length ≤ _; omega) (wrs_app q ws) rfl ?_
    (refine Qv rfl rfl rfl ?_; refine Qj (hK _ _ (Qz ?_)); clear hK K; refine Qx (fun K hK => ?_); refine Qk (iadd (by omega) (by omega)) rfl rfl rfl rfl ?_; refine Qq rfl rfl rfl ?_; refine Qj (hK _ _ (Q7 ?_)); clear hK K)
    refine XQ 1 ?_
    refine Qb (i + 1) (by omega) (by omega) (by rw [hs]; exact Qu rfl ⟨rfl, rfl, rfl, by simp only [Int.natCast_add]; rfl, trivial⟩)
  have hi' : i = ms.length := by omega
  have hwl := wsA_len ms hmw
  have hwl : (wsA ms).length ≤ 2560000 := by omega
  rw [hi', List.take_length]
  generalize wsA ms = q at e2 hwl ⊢
  have hvl : vr.length ≤ 2560000 := by rw [e2]; exact Nat.le_trans (dd_len _) (by rw [List.length_mergeSort]; omega)
  (refine Qo (Qz (Qy (Qx fun K hK => ?_))); refine Qq rfl rfl rfl ?_)
  refine Ops.callL goSortW (SortD_ok q (by omega)) rfl rfl rfl rfl rfl ?_
  (refine Qj (hK _ _ (Qz (Qy ?_))); clear hK K; refine Qx (fun K hK => ?_); refine Qq rfl rfl rfl ?_)
  refine Ops.callT goCompact_Wr (Compact_Wr_ok (q.mergeSort fun x y => !(ltOf cmpW) y x) (by rw [List.length_mergeSort]; omega)) rfl rfl rfl rfl rfl ?_
  rw [← e2]
  (refine Qv rfl rfl rfl ?_; refine Qj (hK _ _ (Qz (Qy (Qy ?_)))); clear hK K; refine Qx (fun K hK => ?_); refine Qq rfl rfl rfl ?_)
  refine Yq vr.length rfl rfl rfl (by decide) (wrs_len vr) (by with_reducible exact sWrs.und) rfl ?_
  (refine Qk igtr rfl rfl rfl rfl ?_; refine Qj (hK _ _ (Qz ?_)); clear hK K)
  refine Q2 rfl (fun h5 => ?_) (fun h5 => ?_)
  · rw [if_pos h5] at e
    (refine Qy (Qx fun K hK => ?_); refine Qv rfl rfl rfl ?_; refine Qv rfl rfl rfl ?_; refine Qj (hK _ _ (Qz (Q0 (QY ?_)))); clear hK K)
    refine QU [_, _] rfl (Xa Y3 (QQ rfl (QQ rfl QZ))) (by rw [e]; rfl) rfl
  rw [if_neg h5] at e
  (refine QK (Qz (Qy (Qx fun K hK => ?_))); refine Qq rfl rfl rfl ?_; refine Qv rfl rfl rfl ?_; refine Qv rfl rfl rfl ?_; refine Qj (hK _ _ (Qz (Q0 ?_))); clear hK K)
  refine YY 0 _ rfl (wrs_frozen _ _) noBor_sub ?_
  refine QU [_, _] rfl (QQ rfl (QQ rfl QZ)) (by rw [e]; rfl) rfl
end Go.Proofs.YtojkdfilabmafaaGreat
namespace Go.Proofs.YtojkdfilabmafaaGreat
open Go.Own Go.Limbs
def rpY (n t T : Int) : Rs := ⟨0, 0, n, 100 * n, 9, 17, 0, t, true, false, 100 * n + T, adN t, 1, 0, 0, 0, 0⟩
def yF : Int → List Int → List Rs
  | _, [] => []
  | i, T :: d => rpY i (i + 1) T :: yF (i + 1) d
theorem yF_len : ∀ (d : List Int) (i : Int), (yF i d).length = d.length
  | [], _ => rfl
  | _ :: d, i => by show (yF (i + 1) d).length + 1 = _; rw [yF_len d]; rfl
theorem yF_snoc (T : Int) : ∀ (d : List Int) (i : Int), yF i (d ++ [T]) = yF i d ++ [rpY (i + d.length) (i + d.length + 1) T]
  | [], i => by show [rpY i (i + 1) T] = [rpY (i + ((0 : Nat) : Int)) (i + ((0 : Nat) : Int) + 1) T]; rw [Int.natCast_zero, Int.add_zero]
  | q :: d, i => by
    show rpY i (i + 1) q :: yF (i + 1) (d ++ [T]) = rpY i (i + 1) q :: yF (i + 1) d ++ [_]
    rw [yF_snoc T d, List.length_cons, List.cons_append]
    have : i + 1 + (d.length : Int) = i + ((d.length + 1 : Nat) : Int) := by omega
    rw [this]
theorem yF_mem {r : Rs} : ∀ {d : List Int} {i : Int}, r ∈ yF i d → ∃ k : Nat, k < d.length ∧ r = rpY (i + k) (i + k + 1) (d.getD k 0)
  | [], _, h => by cases h
  | T :: d, i, h => by
    rcases List.mem_cons.1 h with rfl | h
    · exact ⟨0, Nat.succ_pos _, by rw [Int.natCast_zero, Int.add_zero]; rfl⟩
    · obtain ⟨k, h1, h2⟩ := yF_mem h
      refine ⟨k + 1, Nat.succ_lt_succ h1, ?_⟩
      rw [h2, show i + 1 + (k : Int) = i + ((k + 1 : Nat) : Int) by omega]; rfl
theorem yF_has : ∀ {d : List Int} {i : Int} {k : Nat}, k < d.length → rpY (i + k) (i + k + 1) (d.getD k 0) ∈ yF i d
  | [], _, _, h => by cases h
  | T :: d, i, 0, _ => by rw [Int.natCast_zero, Int.add_zero]; exact List.mem_cons_self ..
  | T :: d, i, k + 1, h => by
    have := yF_has (d := d) (i := i + 1) (k := k) (Nat.lt_of_succ_lt_succ h)
    rw [show i + 1 + (k : Int) = i + ((k + 1 : Nat) : Int) by omega] at this
    exact List.mem_cons_of_mem _ this
theorem yF_up : ∀ (d : List Int) (i : Int), Up cmpR (yF i d)
  | [], _ => List.Pairwise.nil
  | T :: d, i => by
    refine List.pairwise_cons.2 ⟨fun r hr => ?_, yF_up d (i + 1)⟩
    obtain ⟨k, _, rfl⟩ := yF_mem hr
    exact cmpL_lt (show 100 * i < 100 * (i + 1 + k) by omega)
theorem yF_chain {d : List Int} (hd : d.length ≤ 200) (hT : ∀ T ∈ d, 0 ≤ T ∧ T ≤ 1000000) : Chain d.length x0T (yF 0 d) where
  up := yF_up d 0
  ok r hr := by
    obtain ⟨k, hk, rfl⟩ := yF_mem hr
    have hm : d.getD k 0 ∈ d := by rw [List.getD_eq_getElem?_getD, List.getElem?_eq_getElem hk]; exact List.getElem_mem hk
    have hb := hT _ hm
    generalize d.getD k 0 = T at hb
    have hv := adN_val (t := 0 + (k : Int) + 1) (by omega) (by omega)
    refine ⟨?_, rfl, rfl, rfl, by show 1 ≤ 0 + (k : Int) + 1; omega, by show 0 + (k : Int) + 1 ≤ d.length; omega, fun _ => ⟨rfl, rfl⟩⟩
    generalize hz : 0 + (k : Int) = z at hv
    have hP1 : ¬ P1 (rpY z (z + 1) T) := by unfold P1 rpY; simp only; omega
    have hP2 : ¬ P2 (rpY z (z + 1) T) := by unfold P2 rpY; simp only; omega
    have hP3 : ¬ P3 (rpY z (z + 1) T) := by unfold P3 rpY; simp
    have hP4 : ¬ P4 (rpY z (z + 1) T) := by unfold P4 rpY; simp only; omega
    have hck : ckE (rpY z (z + 1) T) = 0 := by unfold ckE; rw [if_neg hP1, if_neg hP2, if_neg hP3, if_neg hP4]
    have hf : (rpY z (z + 1) T).fr.val ≠ 0 := by show (adN (z + 1)).val ≠ 0; omega
    unfold okR
    rw [hck, decide_eq_true hf]
    simp [rpY]
  all t ht1 ht2 := by
    have := yF_has (d := d) (i := 0) (k := (t - 1).toNat) (by omega)
    rw [show (0 : Int) + ((t - 1).toNat : Int) = t - 1 by omega] at this
    exact ⟨_, this, rfl, by show t - 1 + 1 = t; omega⟩
theorem chF_take : ∀ (c n : Nat) (s : Int), c ≤ n → (chF n s).take c = chF c s
  | 0, _, _, _ => by simp [chF]
  | c + 1, n + 1, s, h => by show adN s :: (chF n (s + 1)).take c = _; rw [chF_take c n _ (by omega)]; rfl
theorem chF_len : ∀ (c : Nat) (s : Int), (chF c s).length = c
  | 0, _ => rfl
  | c + 1, s => by show (chF c (s + 1)).length + 1 = _; rw [chF_len]
theorem chF_getD : ∀ (c : Nat) (s : Int) (i : Nat), i < c → (chF c s).getD i 0 = adN (s + i)
  | c + 1, s, 0, _ => by show adN s = _; rw [Int.natCast_zero, Int.add_zero]
  | c + 1, s, i + 1, h => by
    show (chF c (s + 1)).getD i 0 = _
    rw [chF_getD c _ i (by omega), show s + 1 + (i : Int) = s + ((i + 1 : Nat) : Int) by omega]
theorem chF_all : ∀ (c : Nat) (s : Int), 1 ≤ s → s + c ≤ 4294967296 → (chF c s).all (fun a => decide (a ≠ 0)) = true
  | 0, _, _, _ => rfl
  | c + 1, s, h1, h2 => by
    have := adN_val (t := s) (by omega) (by omega)
    have hd : decide (adN s ≠ 0) = true := decide_eq_true (fun h => by rw [h] at this; have : (0 : Int) = s := this; omega)
    rw [show chF (c + 1) s = adN s :: chF c (s + 1) from rfl, List.all_cons, hd, chF_all c (s + 1) (by omega) (by omega)]; rfl
def wks (s : Int) (c : Nat) : List Wr := (List.range c).map fun i : Nat => wk (s + (i : Int))
theorem wks_succ (s : Int) (c : Nat) : wks s (c + 1) = wks s c ++ [wk (s + c)] := by
  unfold wks; rw [List.range_succ, List.map_append]; rfl
theorem wsG_chF : ∀ (c : Nat) (s : Int), wsG (adN (s - 1)) (chF c s) = wks s c
  | 0, _ => rfl
  | c + 1, s => by
    have := wsG_chF c (s + 1)
    rw [Int.add_sub_cancel] at this
    show (adN (s - 1), adN s) :: wsG (adN s) (chF c (s + 1)) = _
    rw [this]
    unfold wks
    rw [List.range_succ_eq_map, List.map_cons, List.map_map, Int.natCast_zero, Int.add_zero]
    refine congrArg _ (List.map_congr_left fun i _ => ?_)
    show wk (s + 1 + i) = wk (s + ((i + 1 : Nat) : Int))
    congr 1; omega
theorem wsO_chF (c : Nat) (h : c ≤ 1000) : wsO (chF c 1) = (wks 1 c, true) := by
  unfold wsO
  rw [chF_all c 1 (by decide) (by omega), if_pos rfl, ← wsG_chF]; rfl
section
variable {d : List Int}
theorem yF_pa (hd : d.length ≤ 200) (hT : ∀ T ∈ d, 0 ≤ T ∧ T ≤ 1000000) {r : Rs} (hr : r ∈ yF 0 d) : paF (yF 0 d) r = chF d.length 1 := by
  have h := yF_chain hd hT
  obtain ⟨_, _, hf, ht, _⟩ := h.ok r hr
  have e : ((yF 0 d).filter fun x => decide (trOf x = trOf r)) = yF 0 d := List.filter_eq_self.2 fun x hx => by rw [(h.ok x hx).2.2.2.1, ht]; simp
  unfold paF ofF
  rw [h.sd, e, hf, h.path (by omega)]
theorem yF_ms (hd : d.length ≤ 200) (hT : ∀ T ∈ d, 0 ≤ T ∧ T ≤ 1000000) : msF (yF 0 d) = (yF 0 d).map fun r => (r, wks 1 r.tt.toNat) := by
  have h := yF_chain hd hT
  have hw : ∀ r ∈ yF 0 d, mesB (yF 0 d) r = true ∧ meF (yF 0 d) r = (r, wks 1 r.tt.toNat) := fun r hr => by
    obtain ⟨_, _, hf, ht, ha, hb, hc⟩ := h.ok r hr
    have hu := h.us hr
    have hp := yF_pa hd hT hr
    have hl := chF_len d.length 1
    have han : r.an = true := by obtain ⟨k, _, rfl⟩ := yF_mem hr; rfl
    have hO : wsO ((chF d.length 1).take r.tt.toNat) = (wks 1 r.tt.toNat, true) := by rw [chF_take _ _ _ (by omega)]; exact wsO_chF _ (by omega)
    have hg : (chF d.length 1).getD (r.tt.toNat - 1) 0 = r.fr := by
      rw [chF_getD _ _ _ (by omega), (hc han).2]; congr 1; omega
    unfold mesB meF
    rw [hp, hO, hg, han, hu, hl, decide_eq_true hb, decide_eq_true rfl]
    exact ⟨rfl, rfl⟩
  unfold msF
  rw [h.sd, List.filter_eq_self.2 fun r hr => (hw r hr).1]
  exact List.map_congr_left fun r hr => (hw r hr).2
theorem cmpW_wk {a b : Int} (h0 : 1 ≤ a) (h : a < b) (h2 : b ≤ 1000) : cmpW (wk a) (wk b) < 0 := by
  have h1 := adN_val (t := a - 1) (by omega) (by omega)
  have h3 := adN_val (t := b - 1) (by omega) (by omega)
  exact cmpL_lt (show ((adN (a - 1)).val : Int) < (adN (b - 1)).val by omega)
theorem wks_up {c : Nat} (h : c ≤ 900) : Up cmpW (wks 1 c) := by
  show List.Pairwise _ _
  rw [List.pairwise_iff_getElem]
  intro i j hi hj hij
  have hl : (wks 1 c).length = c := by unfold wks; rw [List.length_map, List.length_range]
  have e : ∀ (k : Nat) (hk : k < (wks 1 c).length), (wks 1 c)[k] = wk (1 + k) := fun k hk => by simp [wks]
  rw [e, e]
  exact cmpW_wk (by omega) (by omega) (by omega)
theorem wks_mem {c : Nat} {w : Wr} : w ∈ wks 1 c ↔ ∃ i : Nat, i < c ∧ w = wk (1 + i) := by
  unfold wks
  rw [List.mem_map]
  constructor
  · rintro ⟨i, hi, rfl⟩; exact ⟨i, List.mem_range.1 hi, rfl⟩
  · rintro ⟨i, hi, rfl⟩; exact ⟨i, List.mem_range.2 hi, rfl⟩
theorem yF_vr (hd : d.length ≤ 200) (hT : ∀ T ∈ d, 0 ≤ T ∧ T ≤ 1000000) : vrF (yF 0 d) = wks 1 d.length := by
  have h4 := sd_spec ordW (wsA (msF (yF 0 d)))
  refine Up.ext ordW h4.1 (wks_up (by omega)) fun w => ?_
  show w ∈ sd cmpW (wsA (msF (yF 0 d))) ↔ _
  rw [h4.2, yF_ms hd hT, wks_mem]
  unfold wsA
  rw [List.mem_flatMap]
  constructor
  · rintro ⟨m, hm, hw⟩
    obtain ⟨r, hr, rfl⟩ := List.mem_map.1 hm
    obtain ⟨k, hk, rfl⟩ := yF_mem hr
    obtain ⟨i, hi, rfl⟩ := wks_mem.1 hw
    have hi : i < (0 + (k : Int) + 1).toNat := hi
    exact ⟨i, by omega, rfl⟩
  · rintro ⟨i, hi, rfl⟩
    refine ⟨_, List.mem_map_of_mem (yF_has (i := 0) hi), wks_mem.2 ⟨i, ?_, rfl⟩⟩
    show i < (0 + (i : Int) + 1).toNat
    omega
theorem yF_vrO (hd : d.length ≤ 16) (hT : ∀ T ∈ d, 0 ≤ T ∧ T ≤ 1000000) : vrO (yF 0 d) = (wks 1 d.length, 0) := by
  have hc := (yF_chain (by omega) hT).chk (by rw [yF_len]; omega)
  have hl : (wks 1 d.length).length = d.length := by unfold wks; rw [List.length_map, List.length_range]
  unfold vrO
  rw [if_neg (fun h => h hc), yF_vr (by omega) hT, if_neg (by omega)]
end
end Go.Proofs.YtojkdfilabmafaaGreat
namespace Go.Proofs.YtojkdfilabmafaaGreat
open Go.Own Go.Limbs Go.Det
def cfW (vs ws : List Wr) (f : Int) : List Int := vs.map fun v => f * (ws.count v : Int)
def meR (vs : List Wr) (qu : Int) (m : Me) : List Rw := [⟨cfW vs m.2 1, m.1.bk - m.1.tm⟩, ⟨cfW vs m.2 (-1), qu - (m.1.bk - m.1.tm)⟩]
def rowsD (vs : List Wr) (mo qu : Int) (ms : List Me) : List Rw := (vs.map fun v => ⟨cfW vs [v] 1, mo⟩) ++ ms.flatMap (meR vs qu)
def tiB (mo qu : Int) : Bool := decide (0 ≤ mo ∧ mo ≤ 1073741824 ∧ 0 ≤ qu ∧ qu ≤ 1073741824)
def rwO (l : List Rs) (mo qu : Int) : List Rw × List Ik × Int :=
  if tiB mo qu = false then ([], [], 1) else if ¬ (vrO l).2 = 0 then ([], [], (vrO l).2)
  else if 64 < ((vrO l).1.length : Int) + 2 * (msF l).length then ([], [], 5) else (rowsD (vrO l).1 mo qu (msF l), (msF l).map (fun m => idOf m.1), 0)
def unL (n i : Nat) (f : Int) : List Int := (List.replicate n 0).set i f
theorem unL_getD {n i : Nat} (f : Int) (h : i < n) (j : Nat) : (unL n i f).getD j 0 = if j = i then f else 0 := by
  unfold unL
  rw [List.getD_eq_getElem?_getD, List.getElem?_set]
  by_cases e : i = j
  · subst e; rw [if_pos rfl, if_pos (by simpa using h), if_pos rfl]; rfl
  · rw [if_neg e, if_neg (fun h => e h.symm)]
    by_cases hj : j < n
    · rw [List.getElem?_replicate, if_pos hj]; rfl
    · rw [List.getElem?_replicate, if_neg hj]; rfl
theorem rsum_un {n i : Nat} (f : Int) (h : i < n) (X : Nat → Int) : rsum n (unL n i f) X = f * X i := by
  unfold rsum
  rw [Yj (i := i) h (fun k _ hk => by rw [unL_getD f h, if_neg hk, Int.zero_mul]), unL_getD f h, if_pos rfl]
end Go.Proofs.YtojkdfilabmafaaGreat
namespace Go.Proofs.YtojkdfilabmafaaGreat
open Go.Own Go.Limbs
theorem cfW_nil (vs : List Wr) (f : Int) : cfW vs [] f = List.replicate vs.length 0 := by
  unfold cfW
  refine List.eq_replicate_iff.2 ⟨List.length_map _, fun x hx => ?_⟩
  obtain ⟨v, _, rfl⟩ := List.mem_map.1 hx
  rw [List.count_nil]; exact Int.mul_zero f
theorem cfW_len (vs ws : List Wr) (f : Int) : (cfW vs ws f).length = vs.length := by unfold cfW; rw [List.length_map]
theorem cfW_out {vs : List Wr} {x : Wr} (h : x ∉ vs) (l : List Wr) (f : Int) : cfW vs (l ++ [x]) f = cfW vs l f := by
  unfold cfW
  refine List.map_congr_left fun v hv => ?_
  have hne : (x == v) = false := by rw [beq_eq_false_iff_ne]; exact fun e => h (e ▸ hv)
  rw [List.count_append, List.count_singleton, hne]; rfl
theorem cfW_get {vs : List Wr} (l : List Wr) (f : Int) {k : Nat} (hk : k < vs.length) : (cfW vs l f).getD k 0 = f * (l.count (vs.getD k wr0) : Int) := by
  unfold cfW
  rw [List.getD_eq_getElem?_getD, List.getElem?_map, List.getElem?_eq_getElem hk, List.getD_eq_getElem?_getD, List.getElem?_eq_getElem hk]; rfl
theorem cfW_el {vs : List Wr} (l : List Wr) (f : Int) {k : Nat} (h : k < (cfW vs l f).length) : (cfW vs l f)[k] = f * (l.count (vs.getD k wr0) : Int) := by
  have := cfW_get (vs := vs) l f (k := k) (by rw [cfW_len] at h; exact h)
  rw [List.getD_eq_getElem?_getD, List.getElem?_eq_getElem h] at this; exact this
theorem cfW_in {vs : List Wr} (hu : Up cmpW vs) {x : Wr} (h : x ∈ vs) (l : List Wr) (f : Int) : (cfW vs l f).set (posD vs x) ((cfW vs l f).getD (posD vs x) 0 + f) = cfW vs (l ++ [x]) f := by
  obtain ⟨h1, h2⟩ := (posD_at hu).1 h
  have hun : ∀ k, k < vs.length → vs.getD k wr0 = x → k = posD vs x := fun k hk e => by
    have hp := posD_lt (t := x) hu hk
    rw [e, ordW.self] at hp
    have hk2 : ¬ k < posD vs x := fun h => absurd (hp.2 h) (by decide)
    rcases Nat.lt_or_eq_of_le (Nat.le_of_not_lt hk2) with q | q
    · have h3 := List.pairwise_iff_getElem.1 hu _ _ h1 hk q
      rw [List.getD_eq_getElem?_getD, List.getElem?_eq_getElem h1] at h2
      rw [List.getD_eq_getElem?_getD, List.getElem?_eq_getElem hk] at e
      simp only [Option.getD_some] at h2 e
      rw [h2, e, ordW.self] at h3; exact absurd h3 (by decide)
    · exact q.symm
  refine List.ext_getElem (by rw [List.length_set, cfW_len, cfW_len]) fun k hk1 hk2 => ?_
  have hk : k < vs.length := by rw [cfW_len] at hk2; exact hk2
  rw [List.getElem_set, cfW_el (l ++ [x]) f hk2, List.count_append, List.count_singleton]
  by_cases e : posD vs x = k
  · have hx : vs.getD k wr0 = x := by rw [← e]; exact h2
    rw [if_pos e, e, cfW_get l f hk, hx, if_pos (beq_self_eq_true x), Int.natCast_add, Int.mul_add, Int.natCast_one, Int.mul_one]
  · have hne : ¬ (x == vs.getD k wr0) = true := fun h3 => e (hun k hk (eq_of_beq h3).symm).symm
    rw [if_neg e, if_neg hne, Nat.add_zero]
    exact cfW_el l f (by rw [cfW_len]; exact hk)
theorem cfW_bd (vs l : List Wr) {f : Int} (hf : f = 1 ∨ f = -1) (hl : l.length ≤ 1000) (k : Nat) : -1000 ≤ (cfW vs l f).getD k 0 ∧ (cfW vs l f).getD k 0 ≤ 1000 := by
  by_cases hk : k < vs.length
  · rw [cfW_get l f hk]
    have : l.count (vs.getD k wr0) ≤ 1000 := Nat.le_trans List.count_le_length hl
    generalize l.count (vs.getD k wr0) = c at this
    rcases hf with rfl | rfl
    · omega
    · omega
  · rw [List.getD_eq_getElem?_getD, List.getElem?_eq_none (by rw [cfW_len]; omega)]; exact ⟨by decide, by decide⟩
end Go.Proofs.YtojkdfilabmafaaGreat
namespace Go.Own
theorem ushr1 {p : Int} {kk : IntKind} : IBin .shr .u64 p kk 1 (.int .u64 (p / 2)) := .of fun P t w => by
  show (Op.shift .shr .u64 p kk 1).run P w = _
  have e : (Op.shift .shr .u64 p kk 1) = pure (.int .u64 (p.fdiv (2 ^ 1))) := rfl
  rw [e, Int.fdiv_eq_ediv_of_nonneg _ (by decide)]
  rfl
end Go.Own
namespace Go.Proofs.YtojkdfilabmafaaGreat
open Go.Own Go.Limbs
attribute [local irreducible] St Ops Go.Own.Fin Ok OkB OkN OkT OkL OkF OkM
theorem uUintD : Tryz.prog.underlying 165 = some (.int .u64) := Tryz.underlying165
theorem goBSearch : InGo Tryz.prog 49 := InGo.of Tryz.func49 rfl (by decide)
set_option maxHeartbeats 8000000 in
theorem BSearch_ok (vs : List Wr) (x : Wr) (hu : Up cmpW vs) (hl : vs.length ≤ 100000) : Ok Tryz.prog 49 [wrsC vs, wrC x, cmpDV] (.fr (tupT [intC (posD vs x), boolC (decide (x ∈ vs))])) := by
  have hlt := fun h (hh : h < vs.length) => posD_lt (t := x) hu hh
  have hat := posD_at (t := x) hu
  have hpl := posD_le vs x
  have hmem : decide (x ∈ vs) = decide (posD vs x < vs.length ∧ cmpW (vs.getD (posD vs x) wr0) x = 0) := decide_eq_decide.2 (by
    rw [hat]; exact and_congr_right fun _ => ⟨fun h => by rw [h]; exact ordW.self x, fun h => ordW.eq0 _ _ h⟩)
  clear hat
  generalize posD vs x = ps at hlt hpl hmem ⊢
  generalize decide (x ∈ vs) = bm at hmem ⊢
  refine Ok.enter Tryz.func49 rfl _ Tryz.ntmps49 rfl ?_
  intro S w
  (refine Qy (Qx fun K hK => ?_); refine XX 0 rfl rfl rfl rfl rfl rfl rfl ?_; refine Qv rfl rfl rfl ?_; refine Qv rfl rfl rfl ?_; refine Qj (hK _ _ (Qz (Qy ?_))); clear hK K; refine Qx (fun K hK => ?_); refine Qq rfl rfl rfl ?_; refine Qh rfl rfl (by with_reducible first | exact sTks.und | exact sWrs.und | exact sIks.und | exact sAdrs.und) (List.length_map ..) rfl ?_; refine Qv rfl rfl rfl ?_; refine Qj (hK _ _ (Qz (Qy ?_))); clear hK K; refine Qx (fun K hK => ?_); refine Qq rfl rfl rfl ?_; refine Qv rfl rfl rfl ?_; refine Qv rfl rfl rfl ?_; refine Qj (hK _ _ (Qz (Qy (Q5 ?_)))); clear hK K)
  refine Qs (α := Nat × Nat) (fun q => q.1 ≤ q.2 ∧ q.2 ≤ vs.length ∧ q.1 ≤ ps ∧ ps ≤ q.2)
    (fun q => [(0, .ct (wrsC vs)), (2, .ct cmpDV), (4, .own 0), (8, .ct (intC vs.length)), (9, .ct (intC q.1)), (10, .ct (intC q.2))]) (fun _ => [(0, .box 37 (wrCs x))]) (fun q => q.2 - q.1) (0, vs.length) ⟨Nat.zero_le _, Nat.le_refl _, Nat.zero_le _, hpl⟩ (by exact Qu rfl ⟨rfl, rfl, rfl, rfl, rfl, rfl, trivial⟩) ?_
  rintro ⟨i, j⟩ ⟨hij, hj, h1, h2⟩
  dsimp only at hij hj h1 h2 ⊢
  (refine Qy (Qy (Qx fun K hK => ?_)); refine Qq rfl rfl rfl ?_; refine Qq rfl rfl rfl ?_; refine Qk ilss rfl rfl rfl rfl ?_; refine Qj (hK _ _ (Qz ?_)); clear hK K)
  refine Q2 rfl (fun h => ?_) (fun h => ?_)
  · have eh : ((i : Int) + j) / 2 = (((i + j) / 2 : Nat) : Int) := by omega
    have hh : i ≤ (i + j) / 2 ∧ (i + j) / 2 < j := by omega
    (refine QK (Qz (Q5 (Qy (Qx fun K hK => ?_)))); refine Qq rfl rfl rfl ?_; refine Qq rfl rfl rfl ?_; refine Qk (iadd (by omega) (by omega)) rfl rfl rfl rfl ?_)
    refine Zu rfl rfl (by with_reducible exact uInt) (by with_reducible exact uUintD) (wrap_u (by omega) (by omega)) rfl ?_
    refine Qk ushr1 rfl rfl rfl rfl ?_
    rw [eh]
    generalize (i + j) / 2 = k at hh
    refine Zu rfl rfl (by with_reducible exact uUintD) (by with_reducible exact uInt) (Z1 (by omega) (by omega)) rfl ?_
    clear eh
    have e2 : (k : Int).toNat = k := Int.toNat_natCast k
    have hk := hlt k (by omega)
    (refine Qv rfl rfl rfl ?_; refine Qj (hK _ _ (Qz (Qy ?_))); clear hK K)
    refine Xw (by with_reducible exact mixed) 8 (.p 0 (.p 1 (.p 2 (.p 3 (.f 4 (.f 5 (.m 6 (.p 7 .done)))))))) (by kernel_rfl) (fun K hK => ?_)
    (refine Qq rfl rfl rfl ?_; refine Qq rfl rfl rfl ?_; refine Qq rfl rfl rfl ?_)
    refine Xz rfl rfl rfl (by with_reducible exact sWrs) (by omega) (wrs_at (by omega) (by omega)) rfl ?_
    rw [e2]
    refine Xe (n := 2) rfl rfl rfl (by with_reducible exact lWire) rfl rfl ?_
    (refine Qe (n := 2) rfl rfl rfl rfl rfl (by with_reducible first | exact lTrav | exact lWire | exact lCs) rfl ?_)
    refine Ops.callF goDcmp rfl (Dcmp_ok _ _) rfl rfl rfl rfl ?_
    (refine Qk ilss rfl rfl rfl rfl ?_; refine Qj (hK _ _ (Qz ?_)); clear hK K)
    refine Q2 rfl (fun h3 => ?_) (fun h3 => ?_)
    · have h4 := hk.1 h3
      (refine Qx (fun K hK => ?_); refine Qq rfl rfl rfl ?_; refine Qk (iadd (by omega) (by omega)) rfl rfl rfl rfl ?_; refine Qv rfl rfl rfl ?_; refine Qj (hK _ _ (Ql (Q7 ?_))); clear hK K)
      refine Qb (k + 1, j) (by dsimp only; omega) ⟨by dsimp only; omega, by dsimp only; omega, by dsimp only; omega, by dsimp only; omega⟩ (by exact Qu rfl ⟨rfl, rfl, rfl, rfl, by simp only [Int.natCast_add]; rfl, rfl, trivial⟩)
    · have h4 : ¬ k < ps := fun h => h3 (hk.2 h)
      (refine Qx (fun K hK => ?_); refine Qq rfl rfl rfl ?_; refine Qv rfl rfl rfl ?_; refine Qj (hK _ _ (Ql (Q7 ?_))); clear hK K)
      refine Qb (i, k) (by dsimp only; omega) ⟨by dsimp only; omega, by dsimp only; omega, by dsimp only; omega, by dsimp only; omega⟩ (by exact Qu rfl ⟨rfl, rfl, rfl, rfl, rfl, rfl, trivial⟩)
  have hip : i = ps := by omega
  subst hip
  have e2 : (i : Int).toNat = i := Int.toNat_natCast i
  clear hlt h1 h2 hij
  (refine Qo (Qz (Qy ?_)))
  refine Xw (by with_reducible exact mixed) 16 (.p 0 (.p 1 (.p 2 (.p 3 (.p 4 (.p 5 (.p 6 (.p 7 (.p 8 (.f 9 (.f 10 (.m 11 (.p 12 (.p 13 (.p 14 (.p 15 .done)))))))))))))))) (by kernel_rfl) (fun K hK => ?_)
  (refine Qq rfl rfl rfl ?_; refine Qq rfl rfl rfl ?_; refine Qq rfl rfl rfl ?_; refine Qk ilss rfl rfl rfl rfl ?_; refine Qq rfl rfl rfl ?_)
  refine Qf 39 rfl (fun h3 => ?_) (fun h3 => ?_)
  · have hb : bm = decide (cmpW (vs.getD i wr0) x = 0) := by rw [hmem]; exact decide_eq_decide.2 ⟨fun h => h.2, fun h => ⟨by omega, h⟩⟩
    (refine Qq rfl rfl rfl ?_; refine Qq rfl rfl rfl ?_; refine Qq rfl rfl rfl ?_)
    refine Xz rfl rfl rfl (by with_reducible exact sWrs) (by omega) (wrs_at (by omega) (by omega)) rfl ?_
    rw [e2]
    refine Xe (n := 2) rfl rfl rfl (by with_reducible exact lWire) rfl rfl ?_
    (refine Qe (n := 2) rfl rfl rfl rfl rfl (by with_reducible first | exact lTrav | exact lWire | exact lCs) rfl ?_)
    refine Ops.callF goDcmp rfl (Dcmp_ok _ _) rfl rfl rfl rfl ?_
    (refine Qk ieql rfl rfl rfl rfl ?_; refine Q3 rfl rfl rfl rfl ?_; refine Qv rfl rfl rfl ?_; refine Qv rfl rfl rfl ?_; refine Qj (hK _ _ (Qz (Q0 ?_))); clear hK K)
    refine QU [_, _] rfl (QQ rfl (QQ rfl QZ)) (by rw [hb]; rfl) rfl
  · have hb : bm = false := by rw [hmem]; exact decide_eq_false fun h => h3 (by omega)
    (refine Qw rfl rfl rfl ?_; refine Qw rfl rfl rfl ?_; refine Qw rfl rfl rfl ?_; refine Qw rfl rfl rfl ?_; refine Qw rfl rfl rfl ?_; refine Qw rfl rfl rfl ?_; refine Qw rfl rfl rfl ?_; refine Qw rfl rfl rfl ?_; refine Q6 rfl rfl rfl rfl ?_; refine Qv rfl rfl rfl ?_; refine Qv rfl rfl rfl ?_; refine Qj (hK _ _ (Qz (Q0 ?_))); clear hK K)
    refine QU [_, _] rfl (QQ rfl (QQ rfl QZ)) (by rw [hb]; rfl) rfl
theorem gounit : InGo Tryz.prog 52 := InGo.of Tryz.func52 rfl (by decide)
set_option maxHeartbeats 4000000 in
theorem unit_ok (n k : Nat) (hk : k < n) (hn : n ≤ 1000) (f : Int) : Ok Tryz.prog 52 [intC n, intC k, intC f] (intsC (unL n k f)) := by
  have e2 : (k : Int).toNat = k := Int.toNat_natCast k
  refine Ok.enter Tryz.func52 rfl _ Tryz.ntmps52 rfl ?_
  intro S w
  (refine Qy (Qx fun K hK => ?_); refine Qv rfl rfl rfl ?_; refine Qj (hK _ _ (Qz (Qy ?_))); clear hK K; refine Qx (fun K hK => ?_); refine Qq rfl rfl rfl ?_)
  refine Zl 0 n rfl rfl rfl rfl (by with_reducible exact sInts) (by omega) (by omega) rfl rfl rfl ?_
  rw [ints_made]
  (refine Qv rfl rfl rfl ?_; refine Qj (hK _ _ (Qz (Qy ?_))); clear hK K; refine Qx (fun K hK => ?_); refine Qq rfl rfl rfl ?_; refine Qq rfl rfl rfl ?_; refine Qq rfl rfl rfl ?_)
  refine XJ n rfl rfl rfl (by simp [ints]) rfl (by with_reducible exact sInts) (by omega) (by omega) rfl ?_
  refine Xq rfl rfl rfl rfl rfl (by with_reducible exact zInt) (by simp [Ent.cs]; omega) ?_
  simp only [Ent.setc, ZX]
  rw [show (k : Int).toNat * 1 = k by omega]
  (refine Qj (hK _ _ (Qz (Qy ?_))); clear hK K; refine Qx (fun K hK => ?_); refine Qq rfl rfl rfl ?_; refine Qv rfl rfl rfl ?_; refine Qj (hK _ _ (Qz (Q0 ?_))); clear hK K)
  refine YY 0 _ rfl (ZQ _ _) noBor_sub ?_
  refine QU [_] rfl (QQ rfl QZ) rfl rfl
end Go.Proofs.YtojkdfilabmafaaGreat
namespace Go.Proofs.YtojkdfilabmafaaGreat
open Go.Own Go.Limbs
attribute [local irreducible] St Ops Go.Own.Fin Ok OkB OkN OkT OkL OkF OkM
theorem takeS {α : Type} {z : α} {l : List α} {i : Nat} (h : i < l.length) : l.take (i + 1) = l.take i ++ [l.getD i z] := by
  rw [List.take_add_one, List.getElem?_eq_getElem h]; simp [List.getD_eq_getElem?_getD, List.getElem?_eq_getElem h]
def rwsF (rs : List Rw) : List CT := (rs.map rwCs).flatten
theorem rw_len (r : Rw) : (rwCs r).length = 2 := rfl
theorem rwsF_len (l : List Rw) : (rwsF l).length = l.length * 2 := el_len rw_len l
theorem rwsF_snoc (l : List Rw) (r : Rw) : rwsF (l ++ [r]) = rwsF l ++ rwCs r := by simp [rwsF]
theorem rwsF_frozen (e : Nat) (l : List Rw) : (Ent.row e 2 (rwsF l)).frozen (sliceT 2 (l.map rwCs)) :=
  ⟨_, rfl, fun e he => by obtain ⟨m, _, rfl⟩ := List.mem_map.mp he; rfl, by decide, rfl⟩
abbrev prB (vs : List Wr) (v : Value) (rs : List Rw) : BL := [(0, .box 108 [wrsC vs, .ex v]), (1, .rowx v 79 2 (rwsF rs))]
theorem fPr0 : fldInfo Tryz.prog 108 0 = some (0, some 1) := by kernel_rfl
theorem fPr1 : fldInfo Tryz.prog 108 1 = some (1, some 1) := by kernel_rfl
theorem lWrs1P : Ld1 Tryz.prog 25 := Ld1.of _ Tryz.underlying25 rfl
theorem lRws1 : Ld1 Tryz.prog 56 := Ld1.of _ Tryz.underlying56 rfl
theorem zRws1 : (Tryz.prog.info? 56).map (·.size) = some 1 := by kernel_rfl
theorem bRow : bInfo Tryz.prog 79 = some (.agg #[.slice none 0 0, .int .i64 0], [(0, some 1), (1, some 1)]) := by kernel_rfl
theorem goadd : InGo Tryz.prog 46 := InGo.of Tryz.func46 rfl (by decide)
set_option maxHeartbeats 16000000 in
theorem add_ok (vs : List Wr) (hu : Up cmpW vs) (hvl : vs.length ≤ 100) (v : Value) (hv : v.oneCell' = true) (rs : List Rw) (hrl : rs.length ≤ 100000) (ws : List Wr) (hwl : ws.length ≤ 1000) (f b : Int) (hf : f = 1 ∨ f = -1) :
    OkM Tryz.prog 46 [.own 0, .ct (wrsC ws), .ct (intC f), .ct (intC b)] (prB vs v rs) [0] (fun v' : Value => v'.oneCell' = true) (fun _ => .ct unitC) (fun v' => prB vs v' (rs ++ [⟨cfW vs ws f, b⟩])) := by
  refine OkM.enter Tryz.func46 rfl _ Tryz.ntmps46 rfl (fun i hi => by rw [List.mem_singleton.1 hi]; rfl) ?_
  intro S w ρ0 hbor
  (refine Qy (Qx fun K hK => ?_); refine Qq rfl rfl rfl ?_; refine QW rfl rfl rfl rfl ?_)
  refine QJ rfl rfl rfl (by with_reducible exact fPr0) rfl ?_
  refine QX rfl rfl rfl rfl rfl (by with_reducible exact lWrs1P) rfl ?_
  (refine Qh rfl rfl (by with_reducible first | exact sTks.und | exact sWrs.und | exact sIks.und | exact sAdrs.und) (List.length_map ..) rfl ?_)
  refine Zl 2 vs.length rfl rfl rfl rfl (by with_reducible exact sInts) (by omega) (by omega) rfl rfl rfl ?_
  rw [ints_made, ← cfW_nil vs f]
  (refine Qv rfl rfl rfl ?_; refine Qj (hK _ _ (Qz (Qy (Qy ?_)))); clear hK K; refine Qx (fun K hK => ?_); refine Qq rfl rfl rfl ?_; refine Qh rfl rfl (by with_reducible first | exact sTks.und | exact sWrs.und | exact sIks.und | exact sAdrs.und) (List.length_map ..) rfl ?_; refine Qq rfl rfl rfl ?_; refine Qj (hK _ _ (Qz (Q5 ?_))); clear hK K)
  refine Qs (α := Nat) (fun i => i ≤ ws.length)
    (fun i => [(0, .own 0), (2, .ct (intC f)), (3, .ct (intC b)), (8, .own 2), (19, .ct (wrsC ws)), (20, .ct (intC ws.length)), (21, .ct (intC i))])
    (fun i => (2, .row 3 1 (ints (cfW vs (ws.take i) f))) :: prB vs v rs) (fun i => ws.length - i) 0 (Nat.zero_le _) (by exact Qu rfl ⟨rfl, rfl, rfl, rfl, rfl, rfl, rfl, trivial⟩) ?_
  intro i hi
  try dsimp only at hi ⊢
  (refine Qy (Qx fun K hK => ?_); refine Qk ilss rfl rfl rfl rfl ?_; refine Qj (hK _ _ (Qz (Qy ?_))); clear hK K)
  refine Q2 rfl (fun h => ?_) (fun h => ?_)
  · have e2 : (i : Int).toNat = i := Int.toNat_natCast i
    have hs : ws.take (i + 1) = ws.take i ++ [ws.getD i wr0] := takeS (by omega)
    have hbd := cfW_bd vs (ws.take i) hf (by rw [List.length_take]; omega)
    (refine QK (Qz (Qy (Q5 (Qy (Qx fun K hK => ?_))))))
    refine Xz rfl rfl rfl (by with_reducible exact sWrs) (by omega) (wrs_at (by omega) (by omega)) rfl ?_
    rw [e2]
    generalize ws.getD i wr0 = x at hs
    refine Xe (n := 2) rfl rfl rfl (by with_reducible exact lWire) rfl rfl ?_
    refine Qi 3 rfl rfl (by with_reducible exact zvWire) rfl rfl rfl ?_
    refine Qd 2 rfl rfl rfl rfl rfl (by with_reducible exact szWire) rfl rfl ?_
    (refine Qj (hK _ _ (Qz (Qy ?_))); clear hK K)
    refine Xw (by with_reducible exact mixed) 11 (.p 0 (.p 1 (.p 2 (.f 3 (.f 4 (.m 5 (.p 6 (.p 7 (.p 8 (.p 9 (.p 10 .done))))))))))) (by kernel_rfl) (fun K hK => ?_)
    (refine Qq rfl rfl rfl ?_; refine QW rfl rfl rfl rfl ?_)
    refine QJ rfl rfl rfl (by with_reducible exact fPr0) rfl ?_
    skip
    refine QX rfl rfl rfl rfl rfl (by with_reducible exact lWrs1P) rfl ?_
    (refine Qe (n := 2) rfl rfl rfl rfl rfl (by with_reducible first | exact lTrav | exact lWire | exact lCs) rfl ?_)
    refine QV goBSearch (BSearch_ok vs x hu (by omega)) rfl rfl rfl rfl ?_
    (refine Qq rfl rfl rfl ?_; refine Q4 rfl rfl rfl rfl ?_; refine Q4 rfl rfl rfl rfl ?_; refine Qv rfl rfl rfl ?_; refine Qv rfl rfl rfl ?_; refine Qj (hK _ _ (Qz (Qy ?_))); clear hK K; refine Qx (fun K hK => ?_); refine Qq rfl rfl rfl ?_; refine Qj (hK _ _ (Qz ?_)); clear hK K)
    by_cases hx : x ∈ vs
    · rw [decide_eq_true hx]
      have hin := cfW_in hu hx (ws.take i) f
      have hpl := ((posD_at hu).1 hx).1
      have hbd := hbd (posD vs x)
      have hcl := cfW_len vs (ws.take i) f
      rw [← hs] at hin
      generalize posD vs x = k at hin hpl hbd ⊢
      generalize cfW vs (ws.take i) f = cs at hin hbd hcl ⊢
      have e3 : (k : Int).toNat * 1 = k := by omega
      (refine XZ rfl (Qx fun K hK => ?_); refine Qq rfl rfl rfl ?_; refine Qq rfl rfl rfl ?_)
      refine XJ vs.length rfl rfl rfl (by simp [hcl]) rfl (by with_reducible exact sInts) (by omega) (by omega) rfl ?_
      rw [e3]
      refine QX rfl rfl rfl rfl (Xo (by omega)) (by with_reducible exact lInt) rfl ?_
      refine Qq rfl rfl rfl ?_
      refine Qk (iadd (by omega) (by omega)) rfl rfl rfl rfl ?_
      refine XJ vs.length rfl rfl rfl (by simp [hcl]) rfl (by with_reducible exact sInts) (by omega) (by omega) rfl ?_
      rw [e3]
      refine Xq rfl rfl rfl rfl rfl (by with_reducible exact zInt) (by simp [Ent.cs]; omega) ?_
      simp only [Ent.setc, ZX]
      rw [hin]
      (refine Qj (hK _ _ (Qz ?_)); clear hK K; refine Qx (fun K hK => ?_); refine Qk (iadd (by omega) (by omega)) rfl rfl rfl rfl ?_; refine Qq rfl rfl rfl ?_; refine Qj (hK _ _ (Q7 ?_)); clear hK K)
      refine XQ 3 ?_
      refine Qb (i + 1) (by omega) (by omega) (by exact Qu rfl ⟨rfl, rfl, rfl, rfl, rfl, rfl, by simp only [Int.natCast_add]; rfl, trivial⟩)
    · rw [decide_eq_false hx]
      have hout := cfW_out hx (ws.take i) f
      rw [← hs] at hout
      rw [← hout]
      (refine Xu rfl (QK (Qz (Qx fun K hK => ?_))); refine Qk (iadd (by omega) (by omega)) rfl rfl rfl rfl ?_; refine Qq rfl rfl rfl ?_; refine Qj (hK _ _ (Q7 ?_)); clear hK K)
      refine XQ 3 ?_
      refine Qb (i + 1) (by omega) (by omega) (by exact Qu rfl ⟨rfl, rfl, rfl, rfl, rfl, rfl, by simp only [Int.natCast_add]; rfl, trivial⟩)
  have hi' : i = ws.length := by omega
  rw [hi', List.take_length]
  generalize cfW vs ws f = cs
  (refine Qo (Qz (Qx fun K hK => ?_)); refine Qq rfl rfl rfl ?_; refine Qq rfl rfl rfl ?_; refine QW rfl rfl rfl rfl ?_)
  refine QJ rfl rfl rfl (by with_reducible exact fPr1) rfl ?_
  refine QX rfl rfl rfl rfl rfl (by with_reducible exact lRws1) rfl ?_
  refine Qq rfl rfl rfl ?_
  refine Qq rfl rfl rfl ?_
  refine ZV 2 _ rfl (ZQ _ _) hbor ?_
  refine Qp rfl (by with_reducible exact bRow) rfl (.one rfl rfl rfl rfl (.one rfl rfl rfl rfl .nil)) rfl ?_
  refine Zt (n := 2) rfl rfl (by with_reducible exact sRows) rfl rfl (by decide) rfl ?_
  refine X6 47 1 rfl rfl ?_
  refine Qt rs.length (rwsF (rs ++ [⟨cs, b⟩])) rfl rfl rfl rfl (by with_reducible exact sRows) (rwsF_len rs) rfl (by omega) (by omega) (rwsF_snoc rs ⟨cs, b⟩) rfl ?_
  (refine QW rfl rfl rfl rfl ?_)
  refine QJ rfl rfl rfl (by with_reducible exact fPr1) rfl ?_
  refine Ops.name 52 1 rfl rfl (fun v' hv' => ?_)
  refine Xq (c := .ex v') rfl rfl rfl rfl hv' (by with_reducible exact zRws1) (by simp [Ent.cs]) ?_
  (refine Qj (hK _ _ ?_); clear hK K)
  refine Fin.endM v' [] rfl QZ rfl (fun j => ?_) hv'
  rfl
end Go.Proofs.YtojkdfilabmafaaGreat
namespace Go.Proofs.YtojkdfilabmafaaGreat
open Go.Own Go.Limbs Go.Det
def tmT (d : List Int) (t : Nat) : Int := if t = 0 then 0 else d.getD (t - 1) 0
theorem tmT_succ (d : List Int) (t : Nat) : tmT d (t + 1) = d.getD t 0 := by unfold tmT; rw [if_neg (Nat.succ_ne_zero t), Nat.add_sub_cancel]
theorem tmT_zero (d : List Int) : tmT d 0 = 0 := rfl
def Gap (d : List Int) (mo qu : Int) : Prop := 0 ≤ qu ∧ ∀ t, t < d.length → qu ≤ tmT d (t + 1) - tmT d t ∧ tmT d (t + 1) - tmT d t + qu ≤ mo
theorem wks_len (c : Nat) : (wks 1 c).length = c := by unfold wks; rw [List.length_map, List.length_range]
theorem wk_inj {a b : Nat} (ha : a ≤ 900) (hb : b ≤ 900) (h : wk (1 + a) = wk (1 + b)) : a = b := by
  have h1 := adN_val (t := 1 + (a : Int)) (by omega) (by omega)
  have h2 := adN_val (t := 1 + (b : Int)) (by omega) (by omega)
  have h3 : adN (1 + (a : Int)) = adN (1 + (b : Int)) := congrArg (·.2) h
  rw [h3] at h1
  omega
theorem count_wks {j : Nat} (hj : j ≤ 900) : ∀ t : Nat, t ≤ 900 → (wks 1 t).count (wk (1 + j)) = if j < t then 1 else 0
  | 0, _ => by rw [if_neg (Nat.not_lt_zero _)]; rfl
  | t + 1, ht => by
    rw [wks_succ, List.count_append, count_wks hj t (by omega), List.count_singleton]
    by_cases e : t = j
    · subst e; rw [if_neg (Nat.lt_irrefl _), if_pos (Nat.lt_succ_self _)]; simp
    · have hne : (wk (1 + (t : Int)) == wk (1 + (j : Int))) = false := by
        rw [beq_eq_false_iff_ne]; exact fun h => e (wk_inj (by omega) hj h)
      rw [hne, if_neg (show ¬ (false = true) by decide), Nat.add_zero]
      by_cases h : j < t
      · rw [if_pos h, if_pos (show j < t + 1 by omega)]
      · rw [if_neg h, if_neg (show ¬ j < t + 1 by omega)]
theorem cf_getD {n j : Nat} (ws : List Wr) (f : Int) (hj : j < n) : (cfW (wks 1 n) ws f).getD j 0 = f * (ws.count (wk (1 + j)) : Int) := by
  unfold cfW wks
  rw [List.map_map, List.getD_eq_getElem?_getD, List.getElem?_map, List.getElem?_range hj]; rfl
theorem pre_getD {n j t : Nat} (f : Int) (hj : j < n) (ht : t ≤ n) (hn : n ≤ 16) : (cfW (wks 1 n) (wks 1 t) f).getD j 0 = if j < t then f else 0 := by
  rw [cf_getD _ _ hj, count_wks (by omega) t (by omega)]
  split
  · rw [Int.natCast_one, Int.mul_one]
  · rw [Int.natCast_zero, Int.mul_zero]
theorem one_getD {n i j : Nat} (hj : j < n) (hi : i < n) (hn : n ≤ 16) : (cfW (wks 1 n) [wk (1 + i)] 1).getD j 0 = if j = i then 1 else 0 := by
  rw [cf_getD _ _ hj, List.count_singleton]
  by_cases e : j = i
  · subst e; simp
  · have hne : (wk (1 + (i : Int)) == wk (1 + (j : Int))) = false := by
      rw [beq_eq_false_iff_ne]; exact fun h => e (wk_inj (by omega) (by omega) h).symm
    rw [hne, if_neg e]; rfl
theorem tele (S : Nat → Int) (f : Int) (t : Nat) : ∀ n : Nat, sm (fun j => (if j < t then f else 0) * (S (j + 1) - S j)) n = f * (S (min t n) - S 0)
  | 0 => by rw [Nat.min_zero, Int.sub_self, Int.mul_zero]; rfl
  | n + 1 => by
    show sm _ n + (if n < t then f else 0) * (S (n + 1) - S n) = _
    rw [tele S f t n]
    by_cases h : n < t
    · rw [if_pos h, Nat.min_eq_right (by omega), Nat.min_eq_right (by omega)]; grind
    · rw [if_neg h, Nat.min_eq_left (by omega), Nat.min_eq_left (by omega), Int.zero_mul, Int.add_zero]
theorem rsum_pre {n t : Nat} (S : Nat → Int) (f : Int) (ht : t ≤ n) (hn : n ≤ 16) : rsum n (cfW (wks 1 n) (wks 1 t) f) (fun j => S (j + 1) - S j) = f * (S t - S 0) := by
  unfold rsum
  rw [X9 (g := fun j => (if j < t then f else 0) * (S (j + 1) - S j)) (fun k hk => by rw [pre_getD f hk ht hn]), tele, Nat.min_eq_left ht]
theorem rsum_one {n i : Nat} (X : Nat → Int) (hi : i < n) (hn : n ≤ 16) : rsum n (cfW (wks 1 n) [wk (1 + i)] 1) X = X i := by
  unfold rsum
  rw [Yj (i := i) hi (fun k hk he => by rw [one_getD hk hi hn, if_neg he, Int.zero_mul]), one_getD hi hi hn, if_pos rfl, Int.one_mul]
section
variable {d : List Int} {mo qu : Int}
def rowsY (d : List Int) (mo qu : Int) : List Rw := rowsD (wks 1 d.length) mo qu (msF (yF 0 d))
theorem rowsY_mem (hd : d.length ≤ 16) (hT : ∀ T ∈ d, 0 ≤ T ∧ T ≤ 1000000) {r : Rw} : r ∈ rowsY d mo qu ↔ (∃ i, i < d.length ∧ r = ⟨cfW (wks 1 d.length) [wk (1 + (i : Nat))] 1, mo⟩) ∨
    ∃ t, t < d.length ∧ (r = ⟨cfW (wks 1 d.length) (wks 1 (t + 1)) 1, tmT d (t + 1)⟩ ∨ r = ⟨cfW (wks 1 d.length) (wks 1 (t + 1)) (-1), qu - tmT d (t + 1)⟩) := by
  have hm : ∀ k : Nat, meR (wks 1 d.length) qu (rpY (0 + k) (0 + k + 1) (d.getD k 0), wks 1 (rpY (0 + k) (0 + k + 1) (d.getD k 0)).tt.toNat) =
      [⟨cfW (wks 1 d.length) (wks 1 (k + 1)) 1, tmT d (k + 1)⟩, ⟨cfW (wks 1 d.length) (wks 1 (k + 1)) (-1), qu - tmT d (k + 1)⟩] := fun k => by
    have e1 : (rpY (0 + k) (0 + k + 1) (d.getD k 0)).tt.toNat = k + 1 := by show (0 + (k : Int) + 1).toNat = _; omega
    have e2 : (rpY (0 + (k : Int)) (0 + k + 1) (d.getD k 0)).bk - (rpY (0 + (k : Int)) (0 + k + 1) (d.getD k 0)).tm = tmT d (k + 1) := by
      rw [tmT_succ]; show 100 * (0 + (k : Int)) + d.getD k 0 - 100 * (0 + (k : Int)) = _; omega
    unfold meR
    dsimp only
    rw [e1, e2]
  unfold rowsY rowsD
  rw [List.mem_append, List.mem_map, yF_ms (by omega) hT, List.mem_flatMap]
  refine or_congr ⟨?_, ?_⟩ ⟨?_, ?_⟩
  · rintro ⟨w, hw, rfl⟩
    obtain ⟨i, hi, rfl⟩ := wks_mem.1 hw
    exact ⟨i, hi, rfl⟩
  · rintro ⟨i, hi, rfl⟩
    exact ⟨_, wks_mem.2 ⟨i, hi, rfl⟩, rfl⟩
  · rintro ⟨m, hmm, hr⟩
    obtain ⟨x, hx, rfl⟩ := List.mem_map.1 hmm
    obtain ⟨k, hk, rfl⟩ := yF_mem hx
    rw [hm k] at hr
    refine ⟨k, hk, ?_⟩
    rcases List.mem_cons.1 hr with h | h
    · exact .inl h
    · exact .inr (List.mem_singleton.1 h)
  · rintro ⟨k, hk, hr⟩
    refine ⟨_, List.mem_map_of_mem (yF_has (i := 0) hk), ?_⟩
    rw [hm k]
    rcases hr with h | h
    · rw [h]; exact List.mem_cons_self ..
    · rw [h]; exact List.mem_cons_of_mem _ (List.mem_cons_self ..)
theorem rowsD_len (vs : List Wr) (mo qu : Int) : ∀ ms : List Me, (rowsD vs mo qu ms).length = vs.length + 2 * ms.length := fun ms => by
  have : ∀ ms : List Me, (ms.flatMap (meR vs qu)).length = 2 * ms.length := fun ms => by
    induction ms with
    | nil => rfl
    | cons m ms ih => rw [List.flatMap_cons, List.length_append, ih, List.length_cons]; show 2 + _ = _; omega
  unfold rowsD
  rw [List.length_append, List.length_map, this]
theorem rowsY_len (hd : d.length ≤ 16) (hT : ∀ T ∈ d, 0 ≤ T ∧ T ≤ 1000000) : (rowsY d mo qu).length = 3 * d.length := by
  unfold rowsY
  rw [rowsD_len, wks_len, yF_ms (by omega) hT, List.length_map, yF_len]; omega
def stS (d : List Int) (qu : Int) (s t : Nat) : Int := tmT d t - (if t = s ∧ 0 < t then qu else 0)
theorem feasY (hd : d.length ≤ 16) (hT : ∀ T ∈ d, 0 ≤ T ∧ T ≤ 1000000) (hG : Gap d mo qu) (s : Nat) : Feas d.length (rowsY d mo qu) 1 (fun j => stS d qu s (j + 1) - stS d qu s j) := by
  obtain ⟨hq, hg⟩ := hG
  have h0 : stS d qu s 0 = 0 := by unfold stS; rw [if_neg (fun h => absurd h.2 (Nat.lt_irrefl _)), tmT_zero]; rfl
  have hst : ∀ t, stS d qu s t ≤ tmT d t ∧ tmT d t - qu ≤ stS d qu s t := fun t => by unfold stS; split <;> omega
  have hgap : ∀ j, j < d.length → 0 ≤ stS d qu s (j + 1) - stS d qu s j ∧ stS d qu s (j + 1) - stS d qu s j ≤ mo := fun j hj => by
    have h1 := hg j hj
    have h2 := hst j
    have h3 := hst (j + 1)
    omega
  refine feas_of (fun v hv => (hgap v hv).1) fun r hr => ?_
  rcases (rowsY_mem hd hT).1 hr with ⟨i, hi, rfl⟩ | ⟨t, ht, rfl | rfl⟩
  · dsimp only
    rw [rsum_one _ hi hd]; exact (hgap i hi).2
  · dsimp only
    rw [rsum_pre (stS d qu s) 1 (by omega) hd, h0]
    have := hst (t + 1)
    omega
  · dsimp only
    rw [rsum_pre (stS d qu s) (-1) (by omega) hd, h0]
    have := hst (t + 1)
    omega
def hiY (d : List Int) (qu : Int) (i : Nat) : Int := tmT d (i + 1) - tmT d i + if i = 0 then 0 else qu
def loY (d : List Int) (qu : Int) (i : Nat) : Int := tmT d (i + 1) - tmT d i - qu
theorem hi_sol (hd : d.length ≤ 16) (hT : ∀ T ∈ d, 0 ≤ T ∧ T ≤ 1000000) (hG : Gap d mo qu) {i : Nat} (hi : i < d.length) {O : Oc} (h : Sol d.length (rowsY d mo qu) (unL d.length i 1) O) : O.kind = 1 ∧ Btw (hiY d qu i) (hiY d qu i) O.value := by
  have hF := feasY hd hT hG i
  have hl := rowsY_len (mo := mo) (qu := qu) hd hT
  have hX : rsum d.length (unL d.length i 1) (fun j => stS d qu i (j + 1) - stS d qu i j) = hiY d qu i := by
    rw [rsum_un _ hi, Int.one_mul]
    unfold stS hiY
    rw [if_neg (by omega)]
    by_cases e : i = 0
    · rw [if_neg (by omega), if_pos e]; omega
    · rw [if_pos ⟨rfl, by omega⟩, if_neg e]; omega
  have hY : ∃ Y, Dual d.length (rowsY d mo qu) (unL d.length i 1) 1 Y ∧ sm (fun k => cb (rowsY d mo qu) k * Y k) (rowsY d mo qu).length = hiY d qu i := by
    have m1 : (⟨cfW (wks 1 d.length) (wks 1 (i + 1)) 1, tmT d (i + 1)⟩ : Rw) ∈ rowsY d mo qu := (rowsY_mem hd hT).2 (.inr ⟨i, hi, .inl rfl⟩)
    by_cases e : i = 0
    · obtain ⟨Y, y1, y2⟩ := dual_one (n := d.length) (c := unL d.length i 1) m1 (fun j hj => by rw [unL_getD 1 hi, pre_getD 1 hj (by omega) hd]; split <;> split <;> omega)
      refine ⟨Y, y1, y2.trans ?_⟩
      unfold hiY; rw [if_pos e, e, tmT_zero]; dsimp only; omega
    · have m2 : (⟨cfW (wks 1 d.length) (wks 1 (i - 1 + 1)) (-1), qu - tmT d (i - 1 + 1)⟩ : Rw) ∈ rowsY d mo qu := (rowsY_mem hd hT).2 (.inr ⟨i - 1, by omega, .inr rfl⟩)
      rw [show i - 1 + 1 = i by omega] at m2
      obtain ⟨Y, y1, y2⟩ := dual_two (n := d.length) (c := unL d.length i 1) m1 m2 (fun j hj => by rw [unL_getD 1 hi, pre_getD 1 hj (by omega) hd, pre_getD (-1) hj (by omega) hd]; split <;> split <;> split <;> omega)
      refine ⟨Y, y1, y2.trans ?_⟩
      unfold hiY; rw [if_neg e]; dsimp only; omega
  obtain ⟨Y, y1, y2⟩ := hY
  have := sol_btw h (by omega) hF y1
  rw [hX, y2] at this
  exact this
theorem lo_sol (hd : d.length ≤ 16) (hT : ∀ T ∈ d, 0 ≤ T ∧ T ≤ 1000000) (hG : Gap d mo qu) {i : Nat} (hi : i < d.length) {O : Oc} (h : Sol d.length (rowsY d mo qu) (unL d.length i (-1)) O) : O.kind = 1 ∧ Btw (-loY d qu i) (-loY d qu i) O.value := by
  have hF := feasY hd hT hG (i + 1)
  have hl := rowsY_len (mo := mo) (qu := qu) hd hT
  have hX : rsum d.length (unL d.length i (-1)) (fun j => stS d qu (i + 1) (j + 1) - stS d qu (i + 1) j) = -loY d qu i := by
    rw [rsum_un _ hi]
    unfold stS loY
    rw [if_pos ⟨rfl, Nat.succ_pos _⟩, if_neg (by omega)]; omega
  have hY : ∃ Y, Dual d.length (rowsY d mo qu) (unL d.length i (-1)) 1 Y ∧ sm (fun k => cb (rowsY d mo qu) k * Y k) (rowsY d mo qu).length = -loY d qu i := by
    have m1 : (⟨cfW (wks 1 d.length) (wks 1 (i + 1)) (-1), qu - tmT d (i + 1)⟩ : Rw) ∈ rowsY d mo qu := (rowsY_mem hd hT).2 (.inr ⟨i, hi, .inr rfl⟩)
    by_cases e : i = 0
    · obtain ⟨Y, y1, y2⟩ := dual_one (n := d.length) (c := unL d.length i (-1)) m1 (fun j hj => by rw [unL_getD (-1) hi, pre_getD (-1) hj (by omega) hd]; split <;> split <;> omega)
      refine ⟨Y, y1, y2.trans ?_⟩
      unfold loY; rw [e, tmT_zero]; dsimp only; omega
    · have m2 : (⟨cfW (wks 1 d.length) (wks 1 (i - 1 + 1)) 1, tmT d (i - 1 + 1)⟩ : Rw) ∈ rowsY d mo qu := (rowsY_mem hd hT).2 (.inr ⟨i - 1, by omega, .inl rfl⟩)
      rw [show i - 1 + 1 = i by omega] at m2
      obtain ⟨Y, y1, y2⟩ := dual_two (n := d.length) (c := unL d.length i (-1)) m1 m2 (fun j hj => by rw [unL_getD (-1) hi, pre_getD (-1) hj (by omega) hd, pre_getD 1 hj (by omega) hd]; split <;> split <;> split <;> omega)
      refine ⟨Y, y1, y2.trans ?_⟩
      unfold loY; dsimp only; omega
  obtain ⟨Y, y1, y2⟩ := hY
  have := sol_btw h (by omega) hF y1
  rw [hX, y2] at this
  exact this
end
end Go.Proofs.YtojkdfilabmafaaGreat
