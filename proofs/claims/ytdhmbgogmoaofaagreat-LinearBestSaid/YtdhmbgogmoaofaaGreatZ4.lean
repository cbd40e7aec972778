/- The proof that LinearBest holds for every input, without conditions: part 4 of 6. -/
import Derived.Test.YtdhmbgogmoaofaaGreatZ3
namespace Go.Own
def seqR : Code → Code
  | .seq _ b => b
  | c => c
def bodyOf (f : Func) : Code := match f.body with
  | some c => c
  | none => .skip
end Go.Own
namespace Go.Proofs.YtdhmbgogmoaofaaGreat
open Go.Own Go.Limbs
attribute [local irreducible] St Ops Go.Own.Fin Ok OkM
theorem gostart : InGo Tryz.prog 69 := InGo.of Tryz.func69 (by kernel_rfl) (by kernel_rfl)
theorem ints_flat (xs : List Int) : (xs.map fun x => [intC x]).flatten = ints xs := by
  induction xs with
  | nil => rfl
  | cons x xs ih =>
    have e : ints (x :: xs) = intC x :: ints xs := rfl
    rw [e, ← ih]; rfl
theorem getD_take' {α : Type} {l : List α} {i q : Nat} {d : α} (h : i < q) : (l.take q).getD i d = l.getD i d := by
  simp [List.getD_eq_getElem?_getD, List.getElem?_take, h]
theorem fIx_bd (xs : List Int) (v : Int) : -1 ≤ fIx xs v ∧ fIx xs v < xs.length := idxI_bd _ _
theorem nzC_bd {E : Tv} {last : Nat} {art : Int} : -1 ≤ nzC E last art ∧ nzC E last art < (last + 1 : Nat) := by
  have := idxI_bd (fun x => decide (x ≠ 0)) ((E.rows.getD (fIx E.bas art).toNat []).take (last + 1))
  unfold nzC
  rw [List.length_take] at this
  omega
theorem stE2_lens (E : Tv) (last : Nat) (art : Int) : (stE2 E last art).rows.length = E.rows.length ∧ (stE2 E last art).bas.length = E.bas.length ∧ (stE2 E last art).col.length = E.col.length := by
  unfold stE2
  split
  · exact ⟨rfl, rfl, rfl⟩
  · exact ⟨pvt_rows _ _ _, pvt_bas _ _ _, pvt_col _ _ _⟩
theorem set3_B {e0 e1 e2 e3 e3' : Ent} {Lr : BL} : ∀ j, bget ((0, e0) :: (1, e1) :: (2, e2) :: (3, e3') :: Lr) j = bget ((3, e3') :: bdel ((0, e0) :: (1, e1) :: (2, e2) :: (3, e3) :: Lr) 3) j := fun j => by
  by_cases h3 : 3 = j
  · subst h3; rw [bget_cons_eq]; rfl
  · rw [bget_cons_ne _ _ h3, bget_bdel_ne _ (Ne.symm h3)]
    match j, h3 with
    | 0, _ => rfl
    | 1, _ => rfl
    | 2, _ => rfl
    | 3, h => exact absurd rfl h
    | j + 4, _ => rfl
set_option maxHeartbeats 64000000 in
theorem start_tail (T E E2 : Tv) (art : Int) (g1 c1 g3 c3 : Nat) (hlx : List Value) (S : BSet) (w : World) (ρ0 : Nat → Value) (hbor : ∀ gb, (lentM Tryz.prog 220 S w (tabB T) [0] ρ0).bor gb → S gb)
    (hout : stOut T E art = stE3 E T.bas.length T.col.length art) (hres : stRes T E = true) (hE3d : stE3 E T.bas.length T.col.length art = { E2 with rows := delP (fIx E2.col art).toNat (E2.rows.take (T.bas.length + 1)) (T.bas.length + 1), col := E2.col.eraseIdx (fIx E2.col art).toNat, hl := E2.hl.take (T.bas.length + 1) })
    (hRo : 0 ≤ fIx E2.col art) (hr2 : ∀ i, i < T.bas.length + 2 → (E2.rows.getD i []).length = T.col.length + 2) (hn2 : E2.rows.length = T.bas.length + 2) (hc2 : E2.col.length = T.col.length + 1)
    (hhx : hlx.length = T.bas.length + 2) (hlen : T.hl.length = T.bas.length + 1) (hc1 : T.hl.length + 1 ≤ c1) (hc3 : T.col.length + 1 ≤ c3) (hw1 : T.bas.length ≤ 90) (hw2 : T.col.length ≤ 90) :
    St (lentM Tryz.prog 220 S w (tabB T) [0] ρ0) [(0, .own 0), (1, .ct (intC art)), (5, .ct (intC T.bas.length)), (6, .ct (intC T.col.length))]
      ((0, .box 98 [.ex (kh g1 0 (T.hl.length + 1) c1), .ex T.hB, .ex (kh g3 0 (T.col.length + 1) c3), boolC (decide (E2.den < 0)), natC E2.den.natAbs]) :: (1, .rowx (kh g1 0 (T.hl.length + 1) c1) 95 1 (hlx.map CT.ex)) :: (2, .rowx T.hB 3 1 (ints E2.bas)) :: (3, .rowx (kh g3 0 (T.col.length + 1) c3) 3 1 (ints E2.col)) :: linesB 10 hlx E2.rows)
      (seqR (seqR (seqR (seqR (seqR (seqR (seqR (seqR (seqR (seqR (seqR (seqR (seqR (bodyOf Tryz.f69))))))))))))))
      (bodyPost Tryz.prog Tryz.f69 (postM S w ρ0 (tabB T) [0] (fun H : Tv => H.hl.length = (stOut T E art).rows.length) (fun _ => .ct (boolC (stRes T E))) (fun H => tabB ((stOut T E art).wh H)))) := by
  have bC := fIx_bd E2.col art
  have hIc : Ok Tryz.prog 128 [intsC E2.col, intC art] (intC (fIx E2.col art)) := Index_ints E2.col art (by omega)
  obtain ⟨cx, hcx⟩ : ∃ cx : Nat, fIx E2.col art = cx := ⟨(fIx E2.col art).toNat, by omega⟩
  rw [hcx] at hIc bC
  rw [hcx, Int.toNat_natCast] at hE3d
  (refine Qy (Qx fun K hK => ?_); refine Qq rfl rfl rfl ?_; refine Q1 rfl rfl rfl rfl ?_; refine QV rfl rfl rfl (by with_reducible first | exact fW0 | exact fW1 | exact fT0 | exact fT1 | exact fT2 | exact fT3 | exact fR0 | exact fR1) rfl ?_; refine QJ rfl rfl rfl rfl rfl (by with_reducible first | exact lInt | exact lNat | exact lBool | exact lInts | exact lMat | exact lWhs) rfl ?_; refine Qq rfl rfl rfl ?_)
  refine Ops.callRO 3 goIndex_ints hIc rfl rfl (fun a ρ w hI => ?_) rfl rfl ?_
  · have h1 := hI.readX (i := 3) (el := 3) (n := 1) (v := kh g3 0 (T.col.length + 1) c3) (es := E2.col.map fun x => [intC x]) (by rw [ints_flat]; rfl) (by simp) (by decide) hbor
    have h2 : a.eval (.tmp 174) = kh g3 0 (T.col.length + 1) c3 := hI.evx rfl
    exact ⟨by rw [h2]; exact h1, hI.evx rfl, trivial⟩
  (refine Qv rfl rfl rfl ?_; refine Qj (hK _ _ (Qz (Qy ?_))); clear hK K; refine Qx (fun K hK => ?_); refine Qq rfl rfl rfl ?_; refine Qq rfl rfl rfl ?_; refine Q1 rfl rfl rfl rfl ?_; refine QV rfl rfl rfl (by with_reducible first | exact fW0 | exact fW1 | exact fT0 | exact fT1 | exact fT2 | exact fT3 | exact fR0 | exact fR1) rfl ?_; refine QJ rfl rfl rfl rfl rfl (by with_reducible first | exact lInt | exact lNat | exact lBool | exact lInts | exact lMat | exact lWhs) rfl ?_; refine Qq rfl rfl rfl ?_; refine Qw (iadd (by omega) (by omega)) rfl rfl rfl rfl ?_)
  refine Ops.cutKh (T.bas.length + 1) rfl rfl rfl (by omega) sMat (by omega) rfl ?_
  refine Ops.shrink 1 (T.bas.length + 1) rfl (by simp [hhx, hlen]) (by decide) (by omega) ?_
  (refine Q1 rfl rfl rfl rfl ?_; refine QV rfl rfl rfl (by with_reducible first | exact fW0 | exact fW1 | exact fT0 | exact fT1 | exact fT2 | exact fT3 | exact fR0 | exact fR1) rfl ?_; refine Qn rfl rfl rfl rfl rfl (by with_reducible first | exact zInt | exact zInts | exact zMat | exact zBoolW) (Nat.le_of_ble_eq_true rfl) ?_; refine Qj (hK _ _ (Qz (Qy ?_))); clear hK K; refine Qx (fun K hK => ?_); refine Qq rfl rfl rfl ?_; refine Qq rfl rfl rfl ?_; refine Q1 rfl rfl rfl rfl ?_; refine QV rfl rfl rfl (by with_reducible first | exact fW0 | exact fW1 | exact fT0 | exact fT1 | exact fT2 | exact fT3 | exact fR0 | exact fR1) rfl ?_; refine QJ rfl rfl rfl rfl rfl (by with_reducible first | exact lInt | exact lNat | exact lBool | exact lInts | exact lMat | exact lWhs) rfl ?_; refine Qq rfl rfl rfl ?_; refine Qq rfl rfl rfl ?_; refine Qw (iadd (by omega) (by omega)) rfl rfl rfl rfl ?_)
  have hdc := (Delete_ints g3 (T.col.length + 1) c3 E2.col cx (by omega) (by omega) hc3 (by omega)).nm 3 (fun _ _ => .inl ⟨_, rfl⟩)
  refine Ops.call1 3 goDelete_ints hdc rfl rfl rfl hbor rfl (fun p hp => ?_) (fun q j hq => ?_) (fun _ _ => ?_)
  · obtain ⟨k, hk, rfl⟩ := List.mem_map.1 hp
    obtain rfl : k = 0 := by simpa using hk
    exact ⟨by simp, rfl⟩
  · rcases hq with hq | ⟨o, hq⟩ <;> simp [Sl.ren] at hq
  refine Ops.keep [(0, .own 0), (5, .ct (intC T.bas.length)), (16, .ct (intC cx)), (187, .own 0), (195, .ct (.ex (kh g3 0 (T.col.length + 1 - 1) c3)))] ⟨rfl, rfl, rfl, rfl, rfl, trivial⟩ ?_
  have htk : (hlx.map CT.ex).take ((T.bas.length + 1) * 1) = (hlx.take (T.bas.length + 1)).map CT.ex := by rw [Nat.mul_one, List.map_take]
  refine Ops.reB (B' := (0, .box 98 [.ex (kh g1 0 (T.bas.length + 1) c1), .ex T.hB, .ex (kh g3 0 (T.col.length + 1) c3), boolC (decide (E2.den < 0)), natC E2.den.natAbs]) :: (1, .rowx (kh g1 0 (T.bas.length + 1) c1) 95 1 ((hlx.take (T.bas.length + 1)).map CT.ex)) :: (2, .rowx T.hB 3 1 (ints E2.bas)) :: (3, .rowx (kh g3 0 (T.col.length + 1 - 1) c3) 3 1 (ints (E2.col.eraseIdx cx))) :: linesB 10 hlx E2.rows) (fun j => by rw [← htk]; exact set3_B j) ?_
  (refine Q1 rfl rfl rfl rfl ?_; refine QV rfl rfl rfl (by with_reducible first | exact fW0 | exact fW1 | exact fT0 | exact fT1 | exact fT2 | exact fT3 | exact fR0 | exact fR1) rfl ?_; refine Qn rfl rfl rfl rfl rfl (by with_reducible first | exact zInt | exact zInts | exact zMat | exact zBoolW) (Nat.le_of_ble_eq_true rfl) ?_; refine Qj (hK _ _ (Qz (Qy (Qy ?_)))); clear hK K; refine Qx (fun K hK => ?_); refine Qq rfl rfl rfl ?_; refine Q1 rfl rfl rfl rfl ?_; refine QV rfl rfl rfl (by with_reducible first | exact fW0 | exact fW1 | exact fT0 | exact fT1 | exact fT2 | exact fT3 | exact fR0 | exact fR1) rfl ?_; refine QJ rfl rfl rfl rfl rfl (by with_reducible first | exact lInt | exact lNat | exact lBool | exact lInts | exact lMat | exact lWhs) rfl ?_)
  refine X1 1 (T.bas.length + 1) rfl rfl rfl (by decide) (by simp [hhx]) sMat.und rfl ?_
  (refine Qq rfl rfl rfl ?_; refine Qj (hK _ _ (Qz (Q2 ?_))); clear hK K)
  have hyt : (hlx.take (T.bas.length + 1)).length = T.bas.length + 1 := by rw [List.length_take]; omega
  have hrt : (E2.rows.take (T.bas.length + 1)).length = T.bas.length + 1 := by rw [List.length_take]; omega
  refine Ql (α := Nat × List Value) (fun x => x.1 ≤ T.bas.length + 1 ∧ x.2.length = T.bas.length + 1)
    (fun x => [(0, .own 0), (5, .ct (intC T.bas.length)), (16, .ct (intC cx)), (201, .ct (.ex (kh g1 0 (T.bas.length + 1) c1))), (202, .ct (intC ((T.bas.length + 1 : Nat) : Int))), (203, .ct (intC x.1))])
    (fun x => (0, .box 98 [.ex (kh g1 0 (T.bas.length + 1) c1), .ex T.hB, .ex (kh g3 0 T.col.length c3), boolC (decide (E2.den < 0)), natC E2.den.natAbs]) :: (1, .rowx (kh g1 0 (T.bas.length + 1) c1) 95 1 (x.2.map CT.ex)) :: (2, .rowx T.hB 3 1 (ints E2.bas)) :: (3, .rowx (kh g3 0 T.col.length c3) 3 1 (ints (E2.col.eraseIdx cx))) :: linesB 10 x.2 (delP cx (E2.rows.take (T.bas.length + 1)) x.1))
    (fun x => T.bas.length + 1 - x.1) (0, hlx.take (T.bas.length + 1)) ⟨Nat.zero_le _, hyt⟩ (by exact X3 (T.bas.length + 1 + 10) (Xa (by dsimp only; rw [delP_zero]; exact drop_B (by omega) (by omega)) ⟨rfl, rfl, rfl, rfl, rfl, rfl, trivial⟩)) ?_
  rintro ⟨i, hly⟩ ⟨hi, hhy⟩
  dsimp only at hi hhy ⊢
  have hdl2 := delP_len cx (E2.rows.take (T.bas.length + 1)) i
  rw [hrt] at hdl2
  (refine Qy (Qx fun K hK => ?_); refine Qw ilss rfl rfl rfl rfl ?_; refine Qj (hK _ _ (Qz (Qy ?_))); clear hK K)
  refine Q0 rfl (fun h7 => ?_) (fun h7 => ?_)
  · have ki : (i : Int).toNat * 1 = i := by omega
    have hi2 : i < T.bas.length + 1 := by omega
    have hat := delP_at cx (E2.rows.take (T.bas.length + 1)) i (by omega)
    have hset := delP_set cx (E2.rows.take (T.bas.length + 1)) i (by omega)
    rw [getD_take' hi2] at hat hset
    have hln := hr2 i (by omega)
    generalize hline : E2.rows.getD i [] = line at *
    have hlg := lines_get (k := 10) (hl := hly) (zs := delP cx (E2.rows.take (T.bas.length + 1)) i) (i := i) (by omega) (by omega)
    rw [hat] at hlg
    generalize hcur : delP cx (E2.rows.take (T.bas.length + 1)) i = cur at *
    (refine QU (Qz (Qy (Q2 (Qy (Qx fun K hK => ?_))))); refine Qq rfl rfl rfl ?_)
    refine Qi 1 (T.bas.length + 1) rfl rfl rfl (by simp [hhy]) rfl sMat (by omega) (by omega) rfl ?_
    rw [ki]
    refine QJ rfl rfl rfl rfl (hl_get (by omega)) lWhs rfl ?_
    refine Ops.hand (i + 10) (T.col.length + 2) (by exact hlg) (by rw [whs_len, hln]) (by omega) (by decide) (fun gb cc hh hcc hccm => ?_)
    rw [hh] at hlg
    rw [hh]
    (refine Qv rfl rfl rfl ?_; refine Qv rfl rfl rfl ?_; refine Qj (hK _ _ (Qz ?_)); clear hK K)
    have hdl := (Delete_whs gb (T.col.length + 2) cc line cx (by omega) (by omega) hcc (by omega)).nm (i + 10) (fun _ _ => .inl ⟨_, rfl⟩)
    refine St.drawQ (by with_reducible exact mixed) [9, 11] (.p 0 (.p 1 (.p 2 (.p 4 (.p 5 (.p 6 (.p 7 (.p 8 (.m 3 (.a 9 (.p 10 (.a 11 .done .non)) .non) (.a 9 (.m 3 (.p 10 (.a 11 .done .non)) .non) .non)))))))))) (by kernel_rfl) (fun K hK => ?_)
    refine (fun (cont : Go.Own.Fin _ [(0, .own 0), (5, .ct (intC T.bas.length)), (16, .ct (intC cx)), (201, .ct (.ex (kh g1 0 (T.bas.length + 1) c1))), (202, .ct (intC ((T.bas.length + 1 : Nat) : Int))), (203, .ct (intC i)), (17, .ct (intC i))]
      (bset ((i + 10, .rowx (kh gb 0 (T.col.length + 2 - 1) cc) 94 2 (whs (line.eraseIdx cx))) :: bdel ((0, .box 98 [.ex (kh g1 0 (T.bas.length + 1) c1), .ex T.hB, .ex (kh g3 0 T.col.length c3), boolC (decide (E2.den < 0)), natC E2.den.natAbs]) :: (1, .rowx (kh g1 0 (T.bas.length + 1) c1) 95 1 (hly.map CT.ex)) :: (2, .rowx T.hB 3 1 (ints E2.bas)) :: (3, .rowx (kh g3 0 T.col.length c3) 3 1 (ints (E2.col.eraseIdx cx))) :: linesB 10 hly cur) (i + 10)) 1 (.rowx (kh g1 0 (T.bas.length + 1) c1) 95 1 ((hly.map CT.ex).set i (.ex (kh gb 0 (T.col.length + 2 - 1) cc))))) K) => ?_) (hK _ _ ?_)
    rotate_left
    · clear hK K
      (refine Qz (Qx fun K hK => ?_); refine Qw (iadd (by omega) (by omega)) rfl rfl rfl rfl ?_; refine Qq rfl rfl rfl ?_; refine Qj (hK _ _ (Q5 ?_)); clear hK K)
      refine Q8 (i + 1, hly.set i (kh gb 0 (T.col.length + 2 - 1) cc)) (by dsimp only; omega) ⟨by dsimp only; omega, by dsimp only; rw [List.length_set]; exact hhy⟩ (by exact (Xa (by
        dsimp only
        rw [← hset, List.map_set]; exact upd_B (by omega) (by omega)) ⟨rfl, rfl, rfl, rfl, rfl, by simp only [Int.natCast_add]; rfl, trivial⟩))
    clear hK
    refine Qo (Qq rfl rfl rfl (Qj ?_))
    refine Qo (Q1 rfl rfl rfl rfl (Qj ?_))
    refine Qo (QV rfl rfl rfl (by with_reducible exact fT0) rfl (Qj ?_))
    refine Qo (Qq rfl rfl rfl (Qj ?_))
    refine Qo (Qq rfl rfl rfl (Qj ?_))
    refine Qo (Qq rfl rfl rfl (Qj ?_))
    refine Qo (Qq rfl rfl rfl (Qj ?_))
    refine Qo (Qw (iadd (by omega) (by omega)) rfl rfl rfl rfl (Qj ?_))
    refine XK ?_ ?_
    · refine QJ rfl rfl rfl rfl rfl (by with_reducible exact lMat) rfl (Qj ?_)
      refine Xj ?_ Qc
      refine Ops.call1 (i + 10) goDelete_whs hdl rfl rfl rfl hbor (by exact hlg) (fun p hp => ?_) (fun q j hq => ?_) (fun _ _ => ?_)
      rotate_left
      rotate_left
      · refine Qj ?_
        refine Qo (Qi 1 (T.bas.length + 1) rfl rfl rfl (by simp [hhy]) rfl sMat (by omega) (by omega) rfl ?_)
        rw [ki]
        refine Qj (Xj (Qn rfl rfl rfl rfl rfl (by with_reducible exact zWhs) (by simp [Ent.cs, hhy]; omega) (Qj ?_)) Qc)
        exact XZ (X2 cont ⟨rfl, rfl, rfl, rfl, rfl, rfl, rfl, trivial⟩)
      · obtain ⟨k, hk, rfl⟩ := List.mem_map.1 hp
        obtain rfl : k = 0 := by simpa using hk
        exact ⟨by simp, rfl⟩
      · rcases hq with hq | ⟨o, hq⟩ <;> simp [Sl.ren] at hq
    · refine Xj ?_ Qc
      refine Ops.call1 (i + 10) goDelete_whs hdl rfl rfl rfl hbor (by exact hlg) (fun p hp => ?_) (fun q j hq => ?_) (fun _ _ => ?_)
      rotate_left
      rotate_left
      · refine Qj ?_
        refine XK ?_ Qc
        refine QJ rfl rfl rfl rfl rfl (by with_reducible exact lMat) rfl (Qj ?_)
        refine Qo (Qi 1 (T.bas.length + 1) rfl rfl rfl (by simp [hhy]) rfl sMat (by omega) (by omega) rfl ?_)
        rw [ki]
        refine Qj (Xj (Qn rfl rfl rfl rfl rfl (by with_reducible exact zWhs) (by simp [Ent.cs, hhy]; omega) (Qj ?_)) Qc)
        exact XZ (X2 cont ⟨rfl, rfl, rfl, rfl, rfl, rfl, rfl, trivial⟩)
      · obtain ⟨k, hk, rfl⟩ := List.mem_map.1 hp
        obtain rfl : k = 0 := by simpa using hk
        exact ⟨by simp, rfl⟩
      · rcases hq with hq | ⟨o, hq⟩ <;> simp [Sl.ren] at hq
  have hi' : i = T.bas.length + 1 := by omega
  subst hi'
  (refine Qe (Qz (Qy (Qx fun K hK => ?_))); refine Qv rfl rfl rfl ?_; refine Qj (hK _ _ (Qz (Q3 ?_))); clear hK K)
  refine X9 ⟨kh g1 0 (T.bas.length + 1) c1, T.hB, kh g3 0 T.col.length c3, hly, [], [], [], 0⟩ [_] rfl (QQ rfl Qu) (by rw [hres]; rfl) (fun j => by rw [hout, hE3d]; rfl) (by rw [hout, hE3d]; show hly.length = _; rw [hhy]; show _ = (delP cx _ _).length; rw [delP_len, hrt])
end Go.Proofs.YtdhmbgogmoaofaaGreat
namespace Go.Proofs.YtdhmbgogmoaofaaGreat
open Go.Own Go.Limbs
attribute [local irreducible] St Ops Go.Own.Fin Ok OkM
set_option maxHeartbeats 64000000 in
theorem start_ok (T E : Tv) (art : Int) (ha1 : -1152921504606846976 ≤ art) (ha2 : art ≤ 1152921504606846976) (hF : Fit T) (hm : T.rows.length = T.bas.length + 1) (hS : Shrt T) (hfull : ∀ h ∈ T.hl, ∃ gb, h = kh gb 0 (T.col.length + 1) (T.col.length + 1)) (hrun : 0 ≤ wrS T T.bas.length → StartRun T art E) (hw1 : T.rows.length ≤ 90) (hw2 : T.col.length ≤ 90) :
    OkM Tryz.prog 69 [.own 0, .ct (intC art)] (tabB T) [0] (fun H : Tv => H.hl.length = (stOut T E art).rows.length) (fun _ => .ct (boolC (stRes T E))) (fun H => tabB ((stOut T E art).wh H)) := by
  have hhl := hF.hl
  have hof0 := of_ok 0 (by decide) (by decide)
  have hof1 := of_ok 1 (by decide) (by decide)
  have hofm := of_ok (-1) (by decide) (by decide)
  have kl2 : (T.col.length : Int).toNat * 2 = T.col.length * 2 := by omega
  refine OkM.enter Tryz.func69 rfl _ Tryz.ntmps69 rfl (tab_fx T) ?_
  intro S w ρ0 hbor
  have hfix : ∀ p ∈ (lentM Tryz.prog 220 S w (tabB T) [0] ρ0).fix, (bget [] p.1).isSome = true ∨ p.1 ∈ [0] := fun p hp => by
    obtain ⟨i, hi, rfl⟩ := List.mem_map.1 hp
    exact .inr hi
  simp only [tabB]
  (refine Qy (Qx fun K hK => ?_); refine Qv rfl rfl rfl ?_; refine Qj (hK _ _ (Qz (Qy ?_))); clear hK K)
  refine Xq (by with_reducible exact mixed) 12 (.p 0 (.p 1 (.p 2 (.p 5 (.p 6 (.p 7 (.f 3 (.p 4 (.p 10 (.f 8 (.p 9 (.p 11 .done)))))))))))) (by kernel_rfl) (fun K hK => ?_)
  (refine Qq rfl rfl rfl ?_; refine Q1 rfl rfl rfl rfl ?_; refine QV rfl rfl rfl (by with_reducible first | exact fW0 | exact fW1 | exact fT0 | exact fT1 | exact fT2 | exact fT3 | exact fR0 | exact fR1) rfl ?_; refine Qq rfl rfl rfl ?_; refine Q1 rfl rfl rfl rfl ?_; refine QV rfl rfl rfl (by with_reducible first | exact fW0 | exact fW1 | exact fT0 | exact fT1 | exact fT2 | exact fT3 | exact fR0 | exact fR1) rfl ?_; refine QJ rfl rfl rfl rfl rfl (by with_reducible first | exact lInt | exact lNat | exact lBool | exact lInts | exact lMat | exact lWhs) rfl ?_)
  refine X1 2 T.bas.length rfl rfl rfl (by decide) (by simp) sInts.und rfl ?_
  (refine Qv rfl rfl rfl ?_; refine QJ rfl rfl rfl rfl rfl (by with_reducible first | exact lInt | exact lNat | exact lBool | exact lInts | exact lMat | exact lWhs) rfl ?_)
  refine X1 3 T.col.length rfl rfl rfl (by decide) (by simp) sInts.und rfl ?_
  (refine Qv rfl rfl rfl ?_; refine Qj (hK _ _ (Qz (Qy ?_))); clear hK K; refine Qx (fun K hK => ?_); refine Qv rfl rfl rfl ?_; refine Qj (hK _ _ (Qz (Qy (Qy ?_)))); clear hK K; refine Qx (fun K hK => ?_); refine Qq rfl rfl rfl ?_; refine Qq rfl rfl rfl ?_; refine Qj (hK _ _ (Qz (Q2 ?_))); clear hK K)
  refine Ql (α := Nat) (fun i => i ≤ T.bas.length)
    (fun i => [(0, .own 0), (1, .ct (intC art)), (5, .ct (intC T.bas.length)), (6, .ct (intC T.col.length)), (7, .ct (intC (wrS T i))), (29, .ct (intC T.bas.length)), (30, .ct (intC i))])
    (fun _ => tabB T) (fun i => T.bas.length - i) 0 (Nat.zero_le _) (by exact QZ rfl ⟨rfl, rfl, rfl, rfl, rfl, rfl, rfl, trivial⟩) ?_
  intro i hi
  dsimp only at hi ⊢
  have wb := wrS_bd T i
  have ws : wrS T (i + 1) = if T.at i T.col.length < 0 ∧ (wrS T i < 0 ∨ T.at i T.col.length + -(T.at (wrS T i).toNat T.col.length) < 0) then (i : Int) else wrS T i := rfl
  generalize hwr : wrS T i = wr at *
  simp only [tabB]
  (refine Qy (Qx fun K hK => ?_); refine Qw ilss rfl rfl rfl rfl ?_; refine Qj (hK _ _ (Qz (Qy ?_))); clear hK K)
  refine Q0 rfl (fun h => ?_) (fun h => ?_)
  · have hi2 : i < T.rows.length := by omega
    have hrow := hF.row i hi2
    have ki : (i : Int).toNat * 1 = i := by omega
    have sb := hS i T.col.length
    (refine QU (Qz (Qy (Q2 (Qy (Qx fun K hK => ?_))))); refine Qq rfl rfl rfl ?_; refine Qv rfl rfl rfl ?_; refine Qj (hK _ _ (Qz (Qy ?_))); clear hK K; refine Qx (fun K hK => ?_); refine Qq rfl rfl rfl ?_; refine Q1 rfl rfl rfl rfl ?_; refine QV rfl rfl rfl (by with_reducible first | exact fW0 | exact fW1 | exact fT0 | exact fT1 | exact fT2 | exact fT3 | exact fR0 | exact fR1) rfl ?_; refine QJ rfl rfl rfl rfl rfl (by with_reducible first | exact lInt | exact lNat | exact lBool | exact lInts | exact lMat | exact lWhs) rfl ?_; refine Qq rfl rfl rfl ?_)
    refine Qi 1 T.rows.length rfl rfl rfl (by simp [hhl]) rfl sMat (by omega) (by omega) rfl ?_
    rw [ki]
    refine QJ rfl rfl rfl rfl (hl_get (by omega)) lWhs rfl ?_
    (refine Qq rfl rfl rfl ?_)
    refine Qi (i + 10) (T.col.length + 1) rfl rfl (lines_get (by omega) hi2) (by rw [whs_len, hrow]) rfl sWhs (by omega) (by omega) rfl ?_
    rw [kl2]
    refine ldWh rfl rfl rfl (lines_get (by omega) hi2) rfl (by omega) lWh rfl ?_
    generalize hb : T.at i T.col.length = b at *
    rw [show (T.rows.getD i []).getD T.col.length 0 = b from hb]
    (refine Qd 4 rfl rfl (by with_reducible exact zvWh) rfl (by exact lines_lt 10 _ _ 4 (by decide)) rfl ?_; refine Qa 2 rfl rfl rfl rfl rfl (by with_reducible first | exact szWh | exact szRow) rfl rfl ?_; refine Qj (hK _ _ (Qz (Qy ?_))); clear hK K)
    refine Xq (by with_reducible exact mixed) 24 (.f 0 (.m 1 (.p 2 (.p 3 (.p 4 (.p 5 (.p 6 (.p 8 (.p 9 (.p 10 (.p 12 (.p 15 (.f 7 (.f 11 (.p 13 (.f 14 (.p 16 (.f 17 (.m 18 (.m 19 (.m 20 (.p 21 (.p 22 (.p 23 .done)))))))))))))))))))))))) (by kernel_rfl) (fun K hK => ?_)
    refine (fun (cont : ∀ c : Bool, (c = true ↔ (b < 0 ∧ (wr < 0 ∨ b + -(T.at wr.toNat T.col.length) < 0))) → Go.Own.Fin _ [(66, .ct (boolC c)), (0, .own 0), (1, .ct (intC art)), (5, .ct (intC T.bas.length)), (6, .ct (intC T.col.length)), (7, .ct (intC wr)), (8, .ct (intC i)), (29, .ct (intC T.bas.length)), (30, .ct (intC i))] ((4, .box 94 (whCs b)) :: tabB T) K) => ?_) (fun c hc => hK _ _ ?_)
    rotate_left
    · clear hK K
      simp only [tabB]
      (refine Qz ?_)
      refine X0 rfl (fun h2 => ?_) (fun h2 => ?_)
      · have hP := hc.1 h2
        (refine Qx (fun K hK => ?_); refine Qq rfl rfl rfl ?_; refine Qv rfl rfl rfl ?_; refine Qj (hK _ _ (Qz ?_)); clear hK K; refine Qx (fun K hK => ?_); refine Qw (iadd (by omega) (by omega)) rfl rfl rfl rfl ?_; refine Qq rfl rfl rfl ?_; refine Qj (hK _ _ (Q5 ?_)); clear hK K)
        refine Q8 (i + 1) (by omega) (by omega) (by exact X3 4 (QZ (by exact del4) ⟨rfl, rfl, rfl, rfl, by rw [ws, if_pos hP]; rfl, rfl, by simp only [Int.natCast_add]; rfl, trivial⟩))
      · have hP : ¬ (b < 0 ∧ (wr < 0 ∨ b + -(T.at wr.toNat T.col.length) < 0)) := fun hp => by have := hc.2 hp; rw [h2] at this; cases this
        (refine QU (Qz (Qx fun K hK => ?_)); refine Qw (iadd (by omega) (by omega)) rfl rfl rfl rfl ?_; refine Qq rfl rfl rfl ?_; refine Qj (hK _ _ (Q5 ?_)); clear hK K)
        refine Q8 (i + 1) (by omega) (by omega) (by exact X3 4 (QZ (by exact del4) ⟨rfl, rfl, rfl, rfl, by rw [ws, if_neg hP]; rfl, rfl, by simp only [Int.natCast_add]; rfl, trivial⟩))
    clear hK
    (refine Qp (n := 2) rfl rfl rfl rfl rfl (by with_reducible first | exact lWh | exact lRow) rfl ?_)
    refine QX gosign (sign_ok b) rfl rfl rfl rfl ?_
    (refine Qw ilss rfl rfl rfl rfl ?_; refine Qq rfl rfl rfl ?_)
    refine Qg 46 rfl (fun h1 => ?_) (fun h1 => ?_)
    · have hb0 : b < 0 := sgn_lt.1 h1
      (refine Qq rfl rfl rfl ?_; refine Qw ilss rfl rfl rfl rfl ?_; refine Qq rfl rfl rfl ?_)
      refine Qg 49 rfl (fun h2 => ?_) (fun h2 => ?_)
      · (refine Qk rfl rfl rfl ?_; refine Qk rfl rfl rfl ?_; refine Qk rfl rfl rfl ?_; refine Qk rfl rfl rfl ?_; refine Qk rfl rfl rfl ?_; refine Qk rfl rfl rfl ?_; refine Qk rfl rfl rfl ?_; refine Qk rfl rfl rfl ?_; refine Qk rfl rfl rfl ?_; refine Qk rfl rfl rfl ?_; refine Qk rfl rfl rfl ?_; refine Qk rfl rfl rfl ?_; refine Qk rfl rfl rfl ?_; refine Qk rfl rfl rfl ?_; refine Qk rfl rfl rfl ?_; refine Q7 rfl rfl rfl rfl ?_; refine Q7 rfl rfl rfl rfl ?_)
        exact Qj (X2 (cont true ⟨fun _ => ⟨hb0, .inl h2⟩, fun _ => rfl⟩) ⟨rfl, rfl, rfl, rfl, rfl, rfl, rfl, rfl, rfl, trivial⟩)
      · obtain ⟨q, rfl⟩ : ∃ q : Nat, wr = q := ⟨wr.toNat, by omega⟩
        have hq2 : q < T.rows.length := by omega
        have hrowq := hF.row q hq2
        have kq : (q : Int).toNat * 1 = q := by omega
        have sq := hS q T.col.length
        rw [Int.toNat_natCast] at cont
        generalize hb2 : T.at q T.col.length = b2 at *
        (refine Qq rfl rfl rfl ?_; refine Q1 rfl rfl rfl rfl ?_; refine QV rfl rfl rfl (by with_reducible first | exact fW0 | exact fW1 | exact fT0 | exact fT1 | exact fT2 | exact fT3 | exact fR0 | exact fR1) rfl ?_; refine Qq rfl rfl rfl ?_; refine Qq rfl rfl rfl ?_; refine Qp (n := 2) rfl rfl rfl rfl rfl (by with_reducible first | exact lWh | exact lRow) rfl ?_; refine QJ rfl rfl rfl rfl rfl (by with_reducible first | exact lInt | exact lNat | exact lBool | exact lInts | exact lMat | exact lWhs) rfl ?_)
        refine Qi 1 T.rows.length rfl rfl rfl (by simp [hhl]) rfl sMat (by omega) (by omega) rfl ?_
        rw [kq]
        refine QJ rfl rfl rfl rfl (hl_get (by omega)) lWhs rfl ?_
        skip
        refine Qi (q + 10) (T.col.length + 1) rfl rfl (lines_get (by omega) hq2) (by rw [whs_len, hrowq]) rfl sWhs (by omega) (by omega) rfl ?_
        rw [kl2]
        refine ldWh rfl rfl rfl (lines_get (by omega) hq2) rfl (by omega) lWh rfl ?_
        rw [show (T.rows.getD q []).getD T.col.length 0 = b2 from hb2]
        refine QX gominus (minus_ok b2) rfl rfl rfl rfl ?_
        refine QX goplus (plus_ok b (-b2) (by omega) (Nat.le_trans (neg_short sq) (by decide))) rfl rfl rfl rfl ?_
        refine QX gosign (sign_ok _) rfl rfl rfl rfl ?_
        (refine Qw ilss rfl rfl rfl rfl ?_; refine Q6 rfl rfl rfl rfl ?_; refine Q7 rfl rfl rfl rfl ?_)
        refine Qj (X2 (cont (decide ((b + -b2).sign < 0)) ⟨fun hd => ⟨hb0, .inr (sgn_lt.1 (of_decide_eq_true hd))⟩, fun hd => decide_eq_true (sgn_lt.2 (hd.2.resolve_left h2))⟩) ⟨rfl, rfl, rfl, rfl, rfl, rfl, rfl, rfl, rfl, trivial⟩)
    · (refine Qk rfl rfl rfl ?_; refine Qk rfl rfl rfl ?_; refine Qk rfl rfl rfl ?_; refine Qk rfl rfl rfl ?_; refine Qk rfl rfl rfl ?_; refine Qk rfl rfl rfl ?_; refine Qk rfl rfl rfl ?_; refine Qk rfl rfl rfl ?_; refine Qk rfl rfl rfl ?_; refine Qk rfl rfl rfl ?_; refine Qk rfl rfl rfl ?_; refine Qk rfl rfl rfl ?_; refine Qk rfl rfl rfl ?_; refine Qk rfl rfl rfl ?_; refine Qk rfl rfl rfl ?_; refine Qk rfl rfl rfl ?_; refine Qk rfl rfl rfl ?_; refine Qk rfl rfl rfl ?_; refine Qk rfl rfl rfl ?_; refine Q6 rfl rfl rfl rfl ?_)
      exact Qj (X2 (cont false ⟨fun hd => by (cases hd), fun hd => absurd (sgn_lt.2 hd.1) h1⟩) ⟨rfl, rfl, rfl, rfl, rfl, rfl, rfl, rfl, rfl, trivial⟩)
  have hi' : i = T.bas.length := by omega
  subst hi'
  simp only [tabB]
  (refine Qe (Qz (Qy (Qy (Qx fun K hK => ?_)))); refine Qq rfl rfl rfl ?_; refine Qw ilss rfl rfl rfl rfl ?_; refine Qj (hK _ _ (Qz ?_)); clear hK K)
  refine Q0 rfl (fun h2 => ?_) (fun h2 => ?_)
  · have e1 : stOut T E art = T := by unfold stOut; rw [hwr, if_pos h2]
    have e2 : stRes T E = true := by unfold stRes; rw [hwr, decide_eq_true h2]; rfl
    (refine Qy (Qx fun K hK => ?_); refine Qv rfl rfl rfl ?_; refine Qj (hK _ _ (Qz (Q3 (QW ?_)))); clear hK K)
    refine X9 T [_] rfl (QQ rfl Qu) (by rw [e2]; rfl) (fun j => by rw [e1]; rfl) (by rw [e1]; exact hhl)
  obtain ⟨w0, rfl⟩ : ∃ q : Nat, wr = q := ⟨wr.toNat, by omega⟩
  have R := hrun (by omega)
  have hG1 := R.gd
  obtain ⟨sE, kE, hE⟩ := R.run
  rw [hwr, Int.toNat_natCast] at hE
  have hrl2 : (T.rows ++ [List.replicate (T.col.length + 1) (0 : Int)]).length = T.rows.length + 1 := by simp
  (refine QU (Qz (Qy (Qx fun K hK => ?_))); refine Qq rfl rfl rfl ?_; refine Qw (iadd (by omega) (by omega)) rfl rfl rfl rfl ?_)
  refine Ops.makeX (T.hl.length + 10) (T.col.length + 1) rfl rfl rfl (by omega) (by with_reducible exact sWhs) (by omega) (by omega) rfl (by exact lines_ge (.inl (Nat.le_refl _))) rfl (fun gbz => ?_)
  refine Ops.weakX (T.hl.length + 10) (whs (List.replicate (T.col.length + 1) 0)) (bget_cons_eq ..) (whs_zero (T.col.length + 1)) ?_
  rw [bset_cons_eq]
  (refine Qv rfl rfl rfl ?_; refine Qj (hK _ _ (Qz (Qy ?_))); clear hK K; refine Qx (fun K hK => ?_); refine Qq rfl rfl rfl ?_; refine Qq rfl rfl rfl ?_; refine Q1 rfl rfl rfl rfl ?_; refine QV rfl rfl rfl (by with_reducible first | exact fW0 | exact fW1 | exact fT0 | exact fT1 | exact fT2 | exact fT3 | exact fR0 | exact fR1) rfl ?_; refine QJ rfl rfl rfl rfl rfl (by with_reducible first | exact lInt | exact lNat | exact lBool | exact lInts | exact lMat | exact lWhs) rfl ?_; refine Qq rfl rfl rfl ?_)
  refine Xx rfl rfl (by with_reducible exact sMat) rfl rfl rfl ?_
  refine XQ 78 1 rfl rfl ?_
  refine Qh T.hl.length ((T.hl ++ [kh gbz 0 (T.col.length + 1) (T.col.length + 1)]).map CT.ex) rfl rfl rfl rfl (by with_reducible exact sMat) (by simp) rfl (by omega) (by omega) (by simp) rfl ?_
  refine Xy 81 1 (T.hl.length + 1) rfl rfl (by simp) (by omega) (by decide) (fun g1 c1 hc1 hc1m => ?_)
  (refine Q1 rfl rfl rfl rfl ?_; refine QV rfl rfl rfl (by with_reducible first | exact fW0 | exact fW1 | exact fT0 | exact fT1 | exact fT2 | exact fT3 | exact fR0 | exact fR1) rfl ?_; refine Qn rfl rfl rfl rfl rfl (by with_reducible first | exact zInt | exact zInts | exact zMat | exact zBoolW) (Nat.le_of_ble_eq_true rfl) ?_; refine Qj (hK _ _ (Qz (Qy (Qy ?_)))); clear hK K; refine Qx (fun K hK => ?_); refine Qq rfl rfl rfl ?_; refine Q1 rfl rfl rfl rfl ?_; refine QV rfl rfl rfl (by with_reducible first | exact fW0 | exact fW1 | exact fT0 | exact fT1 | exact fT2 | exact fT3 | exact fR0 | exact fR1) rfl ?_; refine QJ rfl rfl rfl rfl rfl (by with_reducible first | exact lInt | exact lNat | exact lBool | exact lInts | exact lMat | exact lWhs) rfl ?_)
  have hfull2 : ∀ k, k < (T.hl ++ [kh gbz 0 (T.col.length + 1) (T.col.length + 1)]).length → ∃ gb, (T.hl ++ [kh gbz 0 (T.col.length + 1) (T.col.length + 1)]).getD k default = kh gb 0 (T.col.length + 1) (T.col.length + 1) := fun k hk => by
    have hmem := getD_mem (z := default) hk
    rcases List.mem_append.1 hmem with h3 | h3
    · exact hfull _ h3
    · exact ⟨gbz, by simpa using h3⟩
  refine X1 1 (T.hl.length + 1) rfl rfl rfl (by decide) (by simp) sMat.und rfl ?_
  (refine Qq rfl rfl rfl ?_; refine Qj (hK _ _ (Qz (Q2 ?_))); clear hK K)
  refine Ql (α := Nat × List Value) (fun x => x.1 ≤ T.hl.length + 1 ∧ x.2.length = T.hl.length + 1 ∧ ∀ k, x.1 ≤ k → k < x.2.length → ∃ gb, x.2.getD k default = kh gb 0 (T.col.length + 1) (T.col.length + 1))
    (fun x => [(0, .own 0), (1, .ct (intC art)), (5, .ct (intC T.bas.length)), (6, .ct (intC T.col.length)), (7, .ct (intC w0)), (87, .ct (.ex (kh g1 0 (T.hl.length + 1) c1))), (88, .ct (intC ((T.hl.length + 1 : Nat) : Int))), (89, .ct (intC x.1))])
    (fun x => (0, .box 98 [.ex (kh g1 0 (T.hl.length + 1) c1), .ex T.hB, .ex T.hC, boolC (decide (T.den < 0)), natC T.den.natAbs]) :: (1, .rowx (kh g1 0 (T.hl.length + 1) c1) 95 1 (x.2.map CT.ex)) :: (2, .rowx T.hB 3 1 (ints T.bas)) :: (3, .rowx T.hC 3 1 (ints T.col)) :: linesB 10 x.2 (insP T.bas.length T.col.length (T.rows ++ [List.replicate (T.col.length + 1) 0]) x.1))
    (fun x => T.hl.length + 1 - x.1) (0, T.hl ++ [kh gbz 0 (T.col.length + 1) (T.col.length + 1)]) ⟨Nat.zero_le _, by simp, fun k _ hk => hfull2 k hk⟩ (by exact Xa (by dsimp only; rw [insP_zero]; exact step_B2 hhl) ⟨rfl, rfl, rfl, rfl, rfl, rfl, rfl, rfl, trivial⟩) ?_
  rintro ⟨i, hlx⟩ ⟨hi, hhx, hfx⟩
  dsimp only at hi hhx hfx ⊢
  have hil := insP_len T.bas.length T.col.length (T.rows ++ [List.replicate (T.col.length + 1) 0]) i
  (refine Qy (Qx fun K hK => ?_); refine Qw ilss rfl rfl rfl rfl ?_; refine Qj (hK _ _ (Qz (Qy ?_))); clear hK K)
  refine Q0 rfl (fun h3 => ?_) (fun h3 => ?_)
  · have hi2 : i < (T.rows ++ [List.replicate (T.col.length + 1) (0 : Int)]).length := by omega
    have ki : (i : Int).toNat * 1 = i := by omega
    obtain ⟨gbi, hgi⟩ := hfx i (Nat.le_refl _) (by omega)
    have hat := insP_at T.bas.length T.col.length (T.rows ++ [List.replicate (T.col.length + 1) 0]) i hi2
    have hset := insP_set T.bas.length T.col.length (T.rows ++ [List.replicate (T.col.length + 1) 0]) i hi2
    have hln : ((T.rows ++ [List.replicate (T.col.length + 1) (0 : Int)]).getD i []).length = T.col.length + 1 := by
      rcases Nat.lt_or_ge i T.rows.length with h4 | h4
      · rw [List.getD_eq_getElem?_getD, List.getElem?_append_left h4, ← List.getD_eq_getElem?_getD]; exact hF.row i h4
      · have : i = T.rows.length := by omega
        subst this
        simp [List.getD_eq_getElem?_getD]
    have hsetl : insL T.bas.length T.col.length i ((T.rows ++ [List.replicate (T.col.length + 1) (0 : Int)]).getD i []) = ((T.rows ++ [List.replicate (T.col.length + 1) (0 : Int)]).getD i []).take T.col.length ++ insX T.bas.length i :: ((T.rows ++ [List.replicate (T.col.length + 1) (0 : Int)]).getD i []).drop T.col.length := rfl
    generalize hline : (T.rows ++ [List.replicate (T.col.length + 1) (0 : Int)]).getD i [] = line at *
    have hlg := lines_get (k := 10) (hl := hlx) (zs := insP T.bas.length T.col.length (T.rows ++ [List.replicate (T.col.length + 1) 0]) i) (i := i) (by omega) (by omega)
    rw [hat, hgi] at hlg
    generalize hcur : insP T.bas.length T.col.length (T.rows ++ [List.replicate (T.col.length + 1) 0]) i = cur at *
    (refine QU (Qz (Qy (Q2 (Qy (Qx fun K hK => ?_))))); refine Qq rfl rfl rfl ?_)
    refine Qi 1 (T.hl.length + 1) rfl rfl rfl (by simp [hhx]) rfl sMat (by omega) (by omega) rfl ?_
    rw [ki]
    refine QJ rfl rfl rfl rfl (hl_get (by omega)) lWhs rfl ?_
    rw [hgi]
    (refine Qv rfl rfl rfl ?_; refine Qv rfl rfl rfl ?_; refine Qj (hK _ _ (Qz (Qy ?_))); clear hK K; refine Qx (fun K hK => ?_))
    refine QX goof hof0 rfl rfl rfl rfl ?_
    (refine Qd 4 rfl rfl (by with_reducible exact zvWh) rfl (by exact lines_lt 10 _ _ 4 (by decide)) rfl ?_; refine Qa 2 rfl rfl rfl rfl rfl (by with_reducible first | exact szWh | exact szRow) rfl rfl ?_; refine Qj (hK _ _ (Qz (Qy (Qy ?_)))); clear hK K; refine Qx (fun K hK => ?_); refine Qq rfl rfl rfl ?_; refine Qq rfl rfl rfl ?_; refine Qw ilss rfl rfl rfl rfl ?_; refine Qj (hK _ _ (Qz ?_)); clear hK K)
    refine St.cutN (α := Unit) (fun _ => True) (fun _ => [(0, .own 0), (1, .ct (intC art)), (5, .ct (intC T.bas.length)), (6, .ct (intC T.col.length)), (7, .ct (intC w0)), (11, .ct (intC i)), (12, .ct (.ex (kh gbi 0 (T.col.length + 1) (T.col.length + 1)))), (13, .own 4), (87, .ct (.ex (kh g1 0 (T.hl.length + 1) c1))), (88, .ct (intC ((T.hl.length + 1 : Nat) : Int))), (89, .ct (intC i))])
      (fun _ => (4, .box 94 (whCs (insX T.bas.length i))) :: (0, .box 98 [.ex (kh g1 0 (T.hl.length + 1) c1), .ex T.hB, .ex T.hC, boolC (decide (T.den < 0)), natC T.den.natAbs]) :: (1, .rowx (kh g1 0 (T.hl.length + 1) c1) 95 1 (hlx.map CT.ex)) :: (2, .rowx T.hB 3 1 (ints T.bas)) :: (3, .rowx T.hC 3 1 (ints T.col)) :: linesB 10 hlx cur) (fun _ _ => ?_) (fun KK hN => ?_)
    rotate_left
    · refine Q0 rfl (fun h4 => ?_) (fun h4 => ?_)
      · have ex : insX T.bas.length i = -1 := by unfold insX; rw [if_pos (by omega)]
        (refine Qx (fun K hK => ?_))
        refine QX goof hofm rfl rfl rfl rfl ?_
        (refine Qa 2 rfl rfl rfl rfl rfl (by with_reducible first | exact szWh | exact szRow) rfl rfl ?_; refine Qj (hK _ _ ?_); clear hK K)
        exact XU hN () trivial (by exact QZ (by rw [ex]; rfl) ⟨rfl, rfl, rfl, rfl, rfl, rfl, rfl, rfl, rfl, rfl, rfl, trivial⟩)
      · (refine Qy (Qx fun K hK => ?_); refine Qq rfl rfl rfl ?_; refine Qq rfl rfl rfl ?_; refine Qw (iadd (by omega) (by omega)) rfl rfl rfl rfl ?_; refine Qw ieql rfl rfl rfl rfl ?_; refine Qj (hK _ _ (Qz ?_)); clear hK K)
        refine Q0 rfl (fun h5 => ?_) (fun h5 => ?_)
        · have ex : insX T.bas.length i = 1 := by unfold insX; rw [if_neg (by omega), if_pos (by omega)]
          (refine Qx (fun K hK => ?_))
          refine QX goof hof1 rfl rfl rfl rfl ?_
          (refine Qa 2 rfl rfl rfl rfl rfl (by with_reducible first | exact szWh | exact szRow) rfl rfl ?_; refine Qj (hK _ _ ?_); clear hK K)
          exact XU hN () trivial (by exact QZ (by rw [ex]; rfl) ⟨rfl, rfl, rfl, rfl, rfl, rfl, rfl, rfl, rfl, rfl, rfl, trivial⟩)
        · have ex : insX T.bas.length i = 0 := by unfold insX; rw [if_neg (by omega), if_neg (by omega)]
          (refine QU ?_)
          exact XU hN () trivial (by exact QZ (by rw [ex]; rfl) ⟨rfl, rfl, rfl, rfl, rfl, rfl, rfl, rfl, rfl, rfl, rfl, trivial⟩)
    generalize hxx : insX T.bas.length i = xx at *
    have hins := (Insert_ok gbi (T.col.length + 1) line T.col.length xx hln (by omega) (by omega)).nm (i + 10) (fun _ _ => .inr rfl)
    refine St.drawQ (by with_reducible exact mixed) [9, 11] (.p 0 (.p 1 (.p 2 (.p 4 (.p 5 (.p 6 (.f 7 (.m 3 (.m 8 (.a 9 (.p 10 (.a 11 .done .non)) .non) .non) (.m 8 (.m 3 (.a 9 (.p 10 (.a 11 .done .non)) .non) (.a 9 (.m 3 (.p 10 (.a 11 .done .non)) .non) .non)) .non))))))))) (by kernel_rfl) (fun K hK => ?_)
    refine (fun (cont : ∀ x : Nat × Nat, (T.col.length + 2 ≤ x.2 ∧ x.2 ≤ maxLen) → Go.Own.Fin _ [(0, .own 0), (1, .ct (intC art)), (5, .ct (intC T.bas.length)), (6, .ct (intC T.col.length)), (7, .ct (intC w0)), (87, .ct (.ex (kh g1 0 (T.hl.length + 1) c1))), (88, .ct (intC ((T.hl.length + 1 : Nat) : Int))), (89, .ct (intC i))]
      (bset ((i + 10, .rowx (kh x.1 0 (T.col.length + 2) x.2) 94 2 (whs (line.take T.col.length ++ xx :: line.drop T.col.length))) :: bdel ((4, .box 94 (whCs xx)) :: (0, .box 98 [.ex (kh g1 0 (T.hl.length + 1) c1), .ex T.hB, .ex T.hC, boolC (decide (T.den < 0)), natC T.den.natAbs]) :: (1, .rowx (kh g1 0 (T.hl.length + 1) c1) 95 1 (hlx.map CT.ex)) :: (2, .rowx T.hB 3 1 (ints T.bas)) :: (3, .rowx T.hC 3 1 (ints T.col)) :: linesB 10 hlx cur) (i + 10)) 1 (.rowx (kh g1 0 (T.hl.length + 1) c1) 95 1 ((hlx.map CT.ex).set i (.ex (kh x.1 0 (T.col.length + 2) x.2))))) K) => ?_) (fun x hx => hK _ _ ?_)
    rotate_left
    · obtain ⟨g2, c2⟩ := x
      clear hK K
      (refine Qz (Qx fun K hK => ?_); refine Qw (iadd (by omega) (by omega)) rfl rfl rfl rfl ?_; refine Qq rfl rfl rfl ?_; refine Qj (hK _ _ (Q5 ?_)); clear hK K)
      refine Q8 (i + 1, hlx.set i (kh g2 0 (T.col.length + 2) c2)) (by dsimp only; omega) ⟨by dsimp only; omega, by dsimp only; rw [List.length_set]; exact hhx, fun k hk1 hk2 => ?_⟩ (by exact X3 4 (Xa (by
        dsimp only
        rw [← hset, hsetl, List.map_set]; exact upd_B4 (by omega) (by omega)) ⟨rfl, rfl, rfl, rfl, rfl, rfl, rfl, by simp only [Int.natCast_add]; rfl, trivial⟩))
      dsimp only at hk1 hk2 ⊢
      rw [List.length_set] at hk2
      obtain ⟨gb, hgb⟩ := hfx k (by omega) hk2
      exact ⟨gb, by rw [List.getD_eq_getElem?_getD, List.getElem?_set_ne (by omega), ← List.getD_eq_getElem?_getD]; exact hgb⟩
    clear hK
    refine Qo (Qq rfl rfl rfl (Qj ?_))
    refine Qo (Q1 rfl rfl rfl rfl (Qj ?_))
    refine Qo (QV rfl rfl rfl (by with_reducible exact fT0) rfl (Qj ?_))
    refine Qo (Qq rfl rfl rfl (Qj ?_))
    refine Qo (Qq rfl rfl rfl (Qj ?_))
    refine Qo (Qq rfl rfl rfl (Qj ?_))
    refine Fin.qf (Qp (n := 2) rfl rfl rfl rfl rfl (by with_reducible exact lWh) rfl (Qj ?_))
    refine XK ?_ ?_
    · refine QJ rfl rfl rfl rfl rfl (by with_reducible exact lMat) rfl (Qj ?_)
      refine XK ?_ Qc
      refine Ops.litN (n := 2) rfl rfl (by with_reducible exact sWhs) rfl rfl (by decide) rfl (Qj ?_)
      refine Xj ?_ Qc
      refine Ops.call1 (i + 10) goInsert hins rfl rfl rfl hbor (by exact hlg) (fun p hp => ?_) (fun q j hq => ?_) (fun _ _ => ?_)
      rotate_left
      rotate_left
      · refine Xy 113 (i + 10) (T.col.length + 2) rfl (bget_cons_eq ..) (by rw [whs_len, List.length_append, List.length_cons, List.length_take, List.length_drop]; omega) (by omega) (by decide) (fun g2 c2 hc2 hc2m => ?_)
        rw [bset_cons_eq]
        refine Qj ?_
        refine Qo (Qi 1 (T.hl.length + 1) rfl rfl rfl (by simp [hhx]) rfl sMat (by omega) (by omega) rfl ?_)
        rw [ki]
        refine Qj (Xj (Qn rfl rfl rfl rfl rfl (by with_reducible exact zWhs) (by simp [Ent.cs, hhx]; omega) (Qj ?_)) Qc)
        exact XZ (X2 (cont (g2, c2) ⟨hc2, hc2m⟩) ⟨rfl, rfl, rfl, rfl, rfl, rfl, rfl, rfl, trivial⟩)
      · obtain ⟨k, hk, rfl⟩ := List.mem_map.1 hp
        obtain rfl : k = 0 := by simpa using hk
        exact ⟨by simp, rfl⟩
      · rcases hq with hq | ⟨o, hq⟩ <;> simp [Sl.ren] at hq; exact hq.symm
    · refine XK ?_ Qc
      refine Ops.litN (n := 2) rfl rfl (by with_reducible exact sWhs) rfl rfl (by decide) rfl (Qj ?_)
      refine XK ?_ ?_
      · refine QJ rfl rfl rfl rfl rfl (by with_reducible exact lMat) rfl (Qj ?_)
        refine Xj ?_ Qc
        refine Ops.call1 (i + 10) goInsert hins rfl rfl rfl hbor (by exact hlg) (fun p hp => ?_) (fun q j hq => ?_) (fun _ _ => ?_)
        rotate_left
        rotate_left
        · refine Xy 113 (i + 10) (T.col.length + 2) rfl (bget_cons_eq ..) (by rw [whs_len, List.length_append, List.length_cons, List.length_take, List.length_drop]; omega) (by omega) (by decide) (fun g2 c2 hc2 hc2m => ?_)
          rw [bset_cons_eq]
          refine Qj ?_
          refine Qo (Qi 1 (T.hl.length + 1) rfl rfl rfl (by simp [hhx]) rfl sMat (by omega) (by omega) rfl ?_)
          rw [ki]
          refine Qj (Xj (Qn rfl rfl rfl rfl rfl (by with_reducible exact zWhs) (by simp [Ent.cs, hhx]; omega) (Qj ?_)) Qc)
          exact XZ (X2 (cont (g2, c2) ⟨hc2, hc2m⟩) ⟨rfl, rfl, rfl, rfl, rfl, rfl, rfl, rfl, trivial⟩)
        · obtain ⟨k, hk, rfl⟩ := List.mem_map.1 hp
          obtain rfl : k = 0 := by simpa using hk
          exact ⟨by simp, rfl⟩
        · rcases hq with hq | ⟨o, hq⟩ <;> simp [Sl.ren] at hq; exact hq.symm
      · refine Xj ?_ Qc
        refine Ops.call1 (i + 10) goInsert hins rfl rfl rfl hbor (by exact hlg) (fun p hp => ?_) (fun q j hq => ?_) (fun _ _ => ?_)
        rotate_left
        rotate_left
        · refine Xy 113 (i + 10) (T.col.length + 2) rfl (bget_cons_eq ..) (by rw [whs_len, List.length_append, List.length_cons, List.length_take, List.length_drop]; omega) (by omega) (by decide) (fun g2 c2 hc2 hc2m => ?_)
          rw [bset_cons_eq]
          refine Qj ?_
          refine XK ?_ Qc
          refine QJ rfl rfl rfl rfl rfl (by with_reducible exact lMat) rfl (Qj ?_)
          refine Qo (Qi 1 (T.hl.length + 1) rfl rfl rfl (by simp [hhx]) rfl sMat (by omega) (by omega) rfl ?_)
          rw [ki]
          refine Qj (Xj (Qn rfl rfl rfl rfl rfl (by with_reducible exact zWhs) (by simp [Ent.cs, hhx]; omega) (Qj ?_)) Qc)
          exact XZ (X2 (cont (g2, c2) ⟨hc2, hc2m⟩) ⟨rfl, rfl, rfl, rfl, rfl, rfl, rfl, rfl, trivial⟩)
        · obtain ⟨k, hk, rfl⟩ := List.mem_map.1 hp
          obtain rfl : k = 0 := by simpa using hk
          exact ⟨by simp, rfl⟩
        · rcases hq with hq | ⟨o, hq⟩ <;> simp [Sl.ren] at hq; exact hq.symm
  have hi' : i = T.hl.length + 1 := by omega
  subst hi'
  have hcurE : insP T.bas.length T.col.length (T.rows ++ [List.replicate (T.col.length + 1) 0]) (T.hl.length + 1) = (insT T art).rows := by rw [hhl]; rfl
  rw [hcurE]
  rw [hcurE] at hil
  (refine Qe (Qz (Qy (Qx fun K hK => ?_))); refine Qq rfl rfl rfl ?_; refine Qq rfl rfl rfl ?_; refine Q1 rfl rfl rfl rfl ?_; refine QV rfl rfl rfl (by with_reducible first | exact fW0 | exact fW1 | exact fT0 | exact fT1 | exact fT2 | exact fT3 | exact fR0 | exact fR1) rfl ?_; refine QJ rfl rfl rfl rfl rfl (by with_reducible first | exact lInt | exact lNat | exact lBool | exact lInts | exact lMat | exact lWhs) rfl ?_; refine Qq rfl rfl rfl ?_)
  refine Xx rfl rfl (by with_reducible exact sInts) rfl rfl rfl ?_
  refine XQ 120 3 rfl rfl ?_
  refine Qh T.col.length (ints (T.col ++ [art])) rfl rfl rfl rfl (by with_reducible exact sInts) (by simp) rfl (by omega) (by omega) (by rw [ints_app]; rfl) rfl ?_
  refine Xy 123 3 (T.col.length + 1) rfl rfl (by simp) (by omega) (by decide) (fun g3 c3 hc3 hc3m => ?_)
  (refine Q1 rfl rfl rfl rfl ?_; refine QV rfl rfl rfl (by with_reducible first | exact fW0 | exact fW1 | exact fT0 | exact fT1 | exact fT2 | exact fT3 | exact fR0 | exact fR1) rfl ?_; refine Qn rfl rfl rfl rfl rfl (by with_reducible first | exact zInt | exact zInts | exact zMat | exact zBoolW) (Nat.le_of_ble_eq_true rfl) ?_; refine Qj (hK _ _ (Qz (Qy ?_))); clear hK K; refine Qx (fun K hK => ?_); refine Qq rfl rfl rfl ?_; refine Qq rfl rfl rfl ?_; refine Qq rfl rfl rfl ?_)
  obtain ⟨H1, hH1⟩ : ∃ H1 : Tv, H1 = ⟨kh g1 0 (T.hl.length + 1) c1, T.hB, kh g3 0 (T.col.length + 1) c3, hlx, [], [], [], 0⟩ := ⟨_, rfl⟩
  have hH1l : H1.hl.length = (insT T art).rows.length := by rw [hH1, hil, hhx]; simp [hhl]
  have l1 : (insT T art).rows.length = T.rows.length + 1 := by rw [hil]; simp
  have l3 : (insT T art).col.length = T.col.length + 1 := by simp [insT]
  have lE := hE.lens
  rw [pvt_rows, pvt_bas, pvt_col, l1, l3, show (insT T art).bas = T.bas from rfl] at lE
  obtain ⟨lE1, lE2, lE3⟩ := lE
  have hGE := hE.last
  have hGE1 := hGE.wh (H := H1) (by rw [hH1l, l1, lE1])
  have hG1w := hG1.wh hH1l
  have hpv := pivot_ok ((insT T art).wh H1) hG1w.fit hG1w.short hG1w.den hG1w.dens w0 T.col.length (by show w0 < T.bas.length; omega) (by show T.col.length < (insT T art).col.length; rw [l3]; omega)
  have hEw := hE.wh (H := H1) (by rw [pvt_rows]; exact hH1l)
  rw [← pvt_wh] at hEw
  have hmx := maximize_ok (pvt ((insT T art).wh H1) w0 T.col.length) (E.wh H1) (T.bas.length + 1) sE kE hEw (by rw [pvt_rows]; show _ < (insT T art).rows.length; rw [l1]; omega)
  have hTeq : (insT T art).wh H1 = ⟨kh g1 0 (T.hl.length + 1) c1, T.hB, kh g3 0 (T.col.length + 1) c3, hlx, (insT T art).rows, T.bas, T.col ++ [art], T.den⟩ := by rw [hH1]; rfl
  refine Xu [] gopivot hpv rfl rfl rfl hbor (by rw [hTeq]; rfl) rfl hfix (fun _ _ => ?_)
  (refine Qj (hK _ _ (Qz (Qy ?_))); clear hK K; refine Qx (fun K hK => ?_); refine Qq rfl rfl rfl ?_; refine Qq rfl rfl rfl ?_; refine Qw (iadd (by omega) (by omega)) rfl rfl rfl rfl ?_)
  refine Xu [] gomaximize hmx rfl rfl rfl hbor rfl rfl hfix (fun _ _ => ?_)
  have hRd : (E.wh H1).rows = E.rows := rfl
  have hBd : (E.wh H1).bas = E.bas := rfl
  have km1 : ((T.bas.length : Int) + 1).toNat * 1 = T.bas.length + 1 := by omega
  have kl3 : ((T.col.length : Int) + 1).toNat * 2 = (T.col.length + 1) * 2 := by omega
  have lH : H1.hl.length = T.rows.length + 1 := by rw [hH1l, l1]
  have hwn : ¬ wrS T T.bas.length < 0 := by rw [hwr]; omega
  have hrE := hGE.fit.row
  rw [lE1, lE3] at hrE
  have hrE1 := hrE (T.bas.length + 1) (by omega)
  (refine Qj (hK _ _ (Qz (Qy (Qy ?_)))); clear hK K; refine Qx (fun K hK => ?_); refine Qq rfl rfl rfl ?_; refine Q1 rfl rfl rfl rfl ?_; refine QV rfl rfl rfl (by with_reducible first | exact fW0 | exact fW1 | exact fT0 | exact fT1 | exact fT2 | exact fT3 | exact fR0 | exact fR1) rfl ?_; refine QJ rfl rfl rfl rfl rfl (by with_reducible first | exact lInt | exact lNat | exact lBool | exact lInts | exact lMat | exact lWhs) rfl ?_; refine Qq rfl rfl rfl ?_; refine Qw (iadd (by omega) (by omega)) rfl rfl rfl rfl ?_)
  refine Qi 1 (T.rows.length + 1) rfl rfl rfl (by rw [List.length_map]; show H1.hl.length = _; omega) rfl sMat (by omega) (by omega) rfl ?_
  rw [km1]
  refine QJ rfl rfl rfl rfl (hl_get (by show _ < H1.hl.length; omega)) lWhs rfl ?_
  (refine Qq rfl rfl rfl ?_; refine Qw (iadd (by omega) (by omega)) rfl rfl rfl rfl ?_)
  refine Qi (T.bas.length + 1 + 10) (T.col.length + 2) rfl rfl (lines_get (by show _ < H1.hl.length; omega) (by show _ < E.rows.length; omega)) (by rw [whs_len]; show (E.rows.getD (T.bas.length + 1) []).length * 2 = _; rw [hrE1]) rfl sWhs (by omega) (by omega) rfl ?_
  rw [kl3]
  refine ldWh rfl rfl rfl (lines_get (by show _ < H1.hl.length; omega) (by show _ < E.rows.length; omega)) rfl (by show _ < (E.rows.getD (T.bas.length + 1) []).length; omega) lWh rfl ?_
  refine QX gosign (sign_ok (E.at (T.bas.length + 1) (T.col.length + 1))) rfl rfl rfl rfl ?_
  have hRp := R.piv
  have hRf := R.fit2
  have hRo := R.out
  have hout : stOut T E art = if E.at (T.bas.length + 1) (T.col.length + 1) < 0 then E else stE3 E T.bas.length T.col.length art := by unfold stOut; rw [if_neg hwn]
  have hres : stRes T E = !decide (E.at (T.bas.length + 1) (T.col.length + 1) < 0) := by unfold stRes; rw [decide_eq_false hwn, Bool.false_or]
  generalize E.at (T.bas.length + 1) (T.col.length + 1) = vE at *
  (refine Qw ilss rfl rfl rfl rfl ?_; refine Qj (hK _ _ (Qz ?_)); clear hK K)
  refine Q0 rfl (fun h4 => ?_) (fun h4 => ?_)
  · have h5 := sgn_lt.1 h4
    rw [if_pos h5] at hout
    rw [decide_eq_true h5] at hres
    (refine Qy (Qx fun K hK => ?_); refine Qv rfl rfl rfl ?_; refine Qj (hK _ _ (Qz (Q3 (QW ?_)))); clear hK K)
    refine X9 H1 [_] rfl (QQ rfl Qu) (by rw [hres]; rfl) (fun j => by rw [hout]; rfl) (by rw [hout, lH, lE1])
  have h5 : ¬ vE < 0 := fun h => h4 (sgn_lt.2 h)
  rw [if_neg h5] at hout
  rw [decide_eq_false h5] at hres
  have hRp := hRp h5
  have hRf := hRf h5
  have hRo := hRo h5
  have hIx : Ok Tryz.prog 128 [intsC E.bas, intC art] (intC (fIx E.bas art)) := Index_ints E.bas art (by omega)
  have bIx := fIx_bd E.bas art
  have bnz := nzC_bd (E := E) (last := T.col.length) (art := art)
  have hnzd : nzC E T.col.length art = idxI (fun x => decide (x ≠ 0)) ((E.rows.getD (fIx E.bas art).toNat []).take (T.col.length + 1)) := rfl
  have hE2d : stE2 E T.col.length art = if fIx E.bas art < 0 then E else pvt E (fIx E.bas art).toNat (nzC E T.col.length art).toNat := rfl
  (refine QU (Qz (Qy (Qy (Qx fun K hK => ?_)))); refine Qq rfl rfl rfl ?_; refine Q1 rfl rfl rfl rfl ?_; refine QV rfl rfl rfl (by with_reducible first | exact fW0 | exact fW1 | exact fT0 | exact fT1 | exact fT2 | exact fT3 | exact fR0 | exact fR1) rfl ?_; refine QJ rfl rfl rfl rfl rfl (by with_reducible first | exact lInt | exact lNat | exact lBool | exact lInts | exact lMat | exact lWhs) rfl ?_; refine Qq rfl rfl rfl ?_)
  refine Ops.callRO 2 goIndex_ints hIx rfl rfl (fun a ρ w hI => ?_) rfl rfl ?_
  · have h1 := hI.readX (i := 2) (el := 3) (n := 1) (v := H1.hB) (es := E.bas.map fun x => [intC x]) (by rw [ints_flat]; rfl) (by simp) (by decide) hbor
    have h2 : a.eval (.tmp 151) = H1.hB := hI.evx rfl
    exact ⟨by rw [h2]; exact h1, hI.evx rfl, trivial⟩
  generalize fIx E.bas art = rx at *
  (refine Qv rfl rfl rfl ?_; refine Qj (hK _ _ (Qz (Qy ?_))); clear hK K; refine Qx (fun K hK => ?_); refine Qq rfl rfl rfl ?_; refine Qw igeq rfl rfl rfl rfl ?_; refine Qj (hK _ _ (Qz ?_)); clear hK K)
  have lE2' := stE2_lens E T.col.length art
  have hE3d : stE3 E T.bas.length T.col.length art = { stE2 E T.col.length art with rows := delP (fIx (stE2 E T.col.length art).col art).toNat ((stE2 E T.col.length art).rows.take (T.bas.length + 1)) (T.bas.length + 1), col := (stE2 E T.col.length art).col.eraseIdx (fIx (stE2 E T.col.length art).col art).toNat, hl := (stE2 E T.col.length art).hl.take (T.bas.length + 1) } := rfl
  generalize hE2 : stE2 E T.col.length art = E2 at *
  refine St.cutN (α := Unit) (fun _ => True) (fun _ => [(0, .own 0), (1, .ct (intC art)), (5, .ct (intC T.bas.length)), (6, .ct (intC T.col.length))])
    (fun _ => (0, .box 98 [.ex (kh g1 0 (T.hl.length + 1) c1), .ex T.hB, .ex (kh g3 0 (T.col.length + 1) c3), boolC (decide (E2.den < 0)), natC E2.den.natAbs]) :: (1, .rowx (kh g1 0 (T.hl.length + 1) c1) 95 1 (hlx.map CT.ex)) :: (2, .rowx T.hB 3 1 (ints E2.bas)) :: (3, .rowx (kh g3 0 (T.col.length + 1) c3) 3 1 (ints E2.col)) :: linesB 10 hlx E2.rows) (fun _ _ => ?_) (fun KK hN => ?_)
  rotate_left
  · refine Q0 rfl (fun h6 => ?_) (fun h6 => ?_)
    · obtain ⟨q, rfl⟩ : ∃ q : Nat, rx = q := ⟨rx.toNat, by omega⟩
      have hnz := hRp h6
      rw [Int.toNat_natCast] at hnzd
      rw [if_neg (by omega), Int.toNat_natCast] at hE2d
      have hq2 : q < T.rows.length + 1 := by omega
      have hrq := hrE q (by omega)
      have kq : (q : Int).toNat * 1 = q := by omega
      obtain ⟨s2, hs2⟩ : ∃ s2 : Nat, nzC E T.col.length art = s2 := ⟨(nzC E T.col.length art).toNat, by omega⟩
      rw [hs2] at hnzd bnz
      rw [hs2, Int.toNat_natCast] at hE2d
      have hpv2 := pivot_ok (E.wh H1) hGE1.fit hGE1.short hGE1.den hGE1.dens q s2 (by show q < E.bas.length; omega) (by show s2 < E.col.length; omega)
      have hlg : bget (tabB (E.wh H1)) (q + 10) = some (.rowx ((E.wh H1).hl.getD q default) 94 2 (whs (E.rows.getD q []))) := lines_get (by show q < H1.hl.length; omega) (by show q < E.rows.length; omega)
      (refine Qy (Qx fun K hK => ?_); refine Qq rfl rfl rfl ?_; refine Q1 rfl rfl rfl rfl ?_; refine QV rfl rfl rfl (by with_reducible first | exact fW0 | exact fW1 | exact fT0 | exact fT1 | exact fT2 | exact fT3 | exact fR0 | exact fR1) rfl ?_; refine QJ rfl rfl rfl rfl rfl (by with_reducible first | exact lInt | exact lNat | exact lBool | exact lInts | exact lMat | exact lWhs) rfl ?_; refine Qq rfl rfl rfl ?_)
      refine Qi 1 (T.rows.length + 1) rfl rfl rfl (by rw [List.length_map]; show H1.hl.length = _; omega) rfl sMat (by omega) (by omega) rfl ?_
      rw [kq]
      refine QJ rfl rfl rfl rfl (hl_get (by show _ < H1.hl.length; omega)) lWhs rfl ?_
      refine Ops.hand (q + 10) (T.col.length + 2) (by exact hlg) (by rw [whs_len, hrq]) (by omega) (by decide) (fun gb cc hh hcc hccm => ?_)
      rw [hh] at hlg
      rw [hh]
      (refine Qq rfl rfl rfl ?_; refine Qw (iadd (by omega) (by omega)) rfl rfl rfl rfl ?_)
      refine Ops.cutKh (T.col.length + 1) rfl rfl rfl (by omega) sWhs (by omega) rfl ?_
      refine Ops.callRO (q + 10) (u := .int .i64 (s2 : Int)) goIndexFunc_whs (by
        have := IndexFunc_whs ((E.rows.getD q []).take (T.col.length + 1)) 130 (fun x => decide (x ≠ 0)) gostart1 (fun x _ => start1_ok x) (by rw [List.length_take]; omega)
        rw [← hnzd] at this
        exact this) rfl (by exact hlg) (fun a ρ w hI => ?_) rfl rfl ?_
      · have h1 := hI.readK (i := q + 10) (es := (E.rows.getD q []).map whCs) (T.col.length + 1) (by exact hlg) (by rw [List.length_map, hrq]) (by simp) (by decide) (by omega) (by omega) hbor
        rw [← List.map_take] at h1
        have h2 : a.eval (.tmp 165) = kh gb 0 (T.col.length + 1) cc := hI.evx rfl
        exact ⟨by rw [h2]; exact h1, hI.evx rfl, trivial⟩
      (refine Qv rfl rfl rfl ?_; refine Qj (hK _ _ (Qz ?_)); clear hK K; refine Qx (fun K hK => ?_); refine Qq rfl rfl rfl ?_; refine Qq rfl rfl rfl ?_; refine Qq rfl rfl rfl ?_)
      refine Xu [] gopivot hpv2 rfl rfl rfl hbor rfl rfl hfix (fun _ _ => ?_)
      (refine Qj (hK _ _ ?_); clear hK K)
      exact XU hN () trivial (by exact QZ (by rw [hE2d, hH1]; rfl) ⟨rfl, rfl, rfl, rfl, trivial⟩)
    · rw [if_pos (by omega)] at hE2d
      (refine QU ?_)
      exact XU hN () trivial (by exact QZ (by rw [hE2d, hH1]; rfl) ⟨rfl, rfl, rfl, rfl, trivial⟩)
  have hr2 := hRf.row
  rw [lE2'.1, lE2'.2.2, lE1, lE3] at hr2
  exact start_tail T E E2 art g1 c1 g3 c3 hlx S w ρ0 hbor hout (by rw [hres]; rfl) hE3d hRo (fun i hi => by rw [hr2 i (by omega)]) (by omega) (by omega) (by omega) (by omega) hc1 hc3 (by omega) (by omega)
end Go.Proofs.YtdhmbgogmoaofaaGreat
namespace Go.Det
abbrev Vec := Nat → Int
def exps (f : List Vec → Int) (r : Nat) : List Vec → List Vec → Int
  | _, [] => 0
  | p, c :: q => c r * f (p ++ q) - exps f r (p ++ [c]) q
def det : Nat → Nat → List Vec → Int
  | 0, _, _ => 1
  | k + 1, r, cs => exps (det k (r + 1)) r [] cs
def lin (x : Int) (u : Vec) (y : Int) (w : Vec) : Vec := fun i => x * u i + y * w i
def Lin (f : List Vec → Int) : Prop := ∀ (A C : List Vec) (x y : Int) (u w : Vec), f (A ++ lin x u y w :: C) = x * f (A ++ u :: C) + y * f (A ++ w :: C)
theorem exps_lin_pre {f : List Vec → Int} (hf : Lin f) (r : Nat) (x y : Int) (u w : Vec) : ∀ (q P Q : List Vec),
    exps f r (P ++ lin x u y w :: Q) q = x * exps f r (P ++ u :: Q) q + y * exps f r (P ++ w :: Q) q
  | [], _, _ => by simp [exps]
  | c :: q, P, Q => by
    have ih := exps_lin_pre hf r x y u w q P (Q ++ [c])
    have h := hf P (Q ++ q) x y u w
    simp only [exps, List.append_assoc, List.cons_append] at *
    rw [ih, h]; grind
theorem det_lin' : ∀ (k r : Nat) (A C : List Vec) (x y : Int) (u w : Vec), A.length + 1 + C.length = k →
    det k r (A ++ lin x u y w :: C) = x * det k r (A ++ u :: C) + y * det k r (A ++ w :: C) := by
  intro k
  induction k with
  | zero => intro r A C x y u w h; omega
  | succ k ih =>
    intro r A C x y u w h
    have key : ∀ (q P Q : List Vec), P.length + 1 + Q.length + q.length = k + 1 →
        exps (det k (r + 1)) r (P ++ lin x u y w :: Q) q = x * exps (det k (r + 1)) r (P ++ u :: Q) q + y * exps (det k (r + 1)) r (P ++ w :: Q) q := by
      intro q
      induction q with
      | nil => intro P Q _; simp [exps]
      | cons c q ih2 =>
        intro P Q hl
        have i2 := ih2 P (Q ++ [c]) (by simp at hl ⊢; omega)
        have i1 := ih (r + 1) P (Q ++ q) x y u w (by simp at hl ⊢; omega)
        simp only [exps, List.append_assoc, List.cons_append] at *
        rw [i2, i1]; grind
    have key2 : ∀ (A C P : List Vec), P.length + A.length + 1 + C.length = k + 1 →
        exps (det k (r + 1)) r P (A ++ lin x u y w :: C) = x * exps (det k (r + 1)) r P (A ++ u :: C) + y * exps (det k (r + 1)) r P (A ++ w :: C) := by
      intro A
      induction A with
      | nil =>
        intro C P hl
        have i2 := key C P [] (by simp at hl ⊢; omega)
        simp only [exps, List.nil_append] at *
        rw [i2]; simp only [lin]; grind
      | cons a A ih2 =>
        intro C P hl
        have i2 := ih2 C (P ++ [a]) (by simp at hl ⊢; omega)
        have i1 := ih (r + 1) (P ++ A) C x y u w (by simp at hl ⊢; omega)
        simp only [exps, List.append_assoc, List.cons_append] at *
        rw [i2, i1]; grind
    exact key2 A C [] (by simp; omega)
theorem det_adj : ∀ (k r : Nat) (A C : List Vec) (u : Vec), A.length + 2 + C.length = k → det k r (A ++ u :: u :: C) = 0 := by
  intro k
  induction k with
  | zero => intro r A C u h; omega
  | succ k ih =>
    intro r A C u h
    have key : ∀ (q P Q : List Vec), P.length + 2 + Q.length + q.length = k + 1 → exps (det k (r + 1)) r (P ++ u :: u :: Q) q = 0 := by
      intro q
      induction q with
      | nil => intro P Q _; rfl
      | cons c q ih2 =>
        intro P Q hl
        have i2 := ih2 P (Q ++ [c]) (by simp at hl ⊢; omega)
        have i1 := ih (r + 1) P (Q ++ q) u (by simp at hl ⊢; omega)
        simp only [exps, List.append_assoc, List.cons_append] at *
        rw [i2, i1]; grind
    have key2 : ∀ (A C P : List Vec), P.length + A.length + 2 + C.length = k + 1 → exps (det k (r + 1)) r P (A ++ u :: u :: C) = 0 := by
      intro A
      induction A with
      | nil =>
        intro C P hl
        have i2 := key C P [] (by simp at hl ⊢; omega)
        simp only [exps, List.nil_append, List.append_assoc, List.cons_append] at *
        rw [i2]; grind
      | cons a A ih2 =>
        intro C P hl
        have i2 := ih2 C (P ++ [a]) (by simp at hl ⊢; omega)
        have i1 := ih (r + 1) (P ++ A) C u (by simp at hl ⊢; omega)
        simp only [exps, List.append_assoc, List.cons_append] at *
        rw [i2, i1]; grind
    exact key2 A C [] (by simp; omega)
def dt (cs : List Vec) : Int := det cs.length 0 cs
theorem dt_lin (A C : List Vec) (x y : Int) (u w : Vec) : dt (A ++ lin x u y w :: C) = x * dt (A ++ u :: C) + y * dt (A ++ w :: C) := by
  unfold dt
  have e : ∀ z : Vec, (A ++ z :: C).length = A.length + 1 + C.length := fun z => by simp; omega
  rw [e, e, e]; exact det_lin' _ _ A C x y u w rfl
theorem dt_adj (A C : List Vec) (u : Vec) : dt (A ++ u :: u :: C) = 0 := by
  unfold dt
  exact det_adj _ _ A C u (by simp; omega)
theorem dt_swap1 (A C : List Vec) (u w : Vec) : dt (A ++ u :: w :: C) = - dt (A ++ w :: u :: C) := by
  have h := dt_adj A C (lin 1 u 1 w)
  rw [dt_lin A] at h
  have h1 := dt_lin (A ++ [u]) C 1 1 u w
  have h2 := dt_lin (A ++ [w]) C 1 1 u w
  simp only [List.append_assoc, List.cons_append, List.nil_append] at h1 h2
  rw [h1, h2, dt_adj, dt_adj] at h
  omega
theorem dt_eq (u : Vec) : ∀ (M A C : List Vec), dt (A ++ u :: (M ++ u :: C)) = 0
  | [], A, C => dt_adj A C u
  | m :: M, A, C => by
    rw [List.cons_append, dt_swap1]
    have := dt_eq u M (A ++ [m]) C
    simp only [List.append_assoc, List.cons_append, List.nil_append] at this
    rw [this]; rfl
theorem dt_swap (A M C : List Vec) (u w : Vec) : dt (A ++ u :: (M ++ w :: C)) = - dt (A ++ w :: (M ++ u :: C)) := by
  have h := dt_eq (lin 1 u 1 w) M A C
  rw [dt_lin A] at h
  have h1 := dt_lin (A ++ u :: M) C 1 1 u w
  have h2 := dt_lin (A ++ w :: M) C 1 1 u w
  simp only [List.append_assoc, List.cons_append, List.nil_append] at h1 h2
  rw [h1, h2, dt_eq, dt_eq] at h
  omega
def unit (i : Nat) : Vec := fun j => if j = i then 1 else 0
theorem exps_zero (f : List Vec → Int) (r : Nat) : ∀ (q P : List Vec), (∀ c ∈ q, c r = 0) → exps f r P q = 0
  | [], _, _ => rfl
  | c :: q, P, h => by
    simp only [exps]
    rw [h c (List.mem_cons_self ..), exps_zero f r q _ (fun c hc => h c (List.mem_cons_of_mem _ hc))]; simp
theorem det_unit : ∀ (k r : Nat), det k r ((List.range' r k).map unit) = 1
  | 0, _ => rfl
  | k + 1, r => by
    rw [List.range'_succ, List.map_cons, det, exps, exps_zero]
    · rw [List.nil_append, det_unit k (r + 1)]; simp [unit]
    · intro c hc
      obtain ⟨i, hi, rfl⟩ := List.mem_map.1 hc
      rw [List.mem_range'_1] at hi
      simp only [unit]; rw [if_neg (by omega)]
theorem dt_unit (k : Nat) : dt ((List.range k).map unit) = 1 := by
  unfold dt
  rw [List.length_map, List.length_range, List.range_eq_range']; exact det_unit k 0
def fact : Nat → Nat
  | 0 => 1
  | n + 1 => (n + 1) * fact n
theorem exps_bd {f : List Vec → Int} {r : Nat} {M F : Nat} : ∀ (q P : List Vec), (∀ c ∈ q, (c r).natAbs ≤ M) → (∀ A B c, q = A ++ c :: B → (f (P ++ A ++ B)).natAbs ≤ F) → (exps f r P q).natAbs ≤ q.length * (M * F)
  | [], _, _, _ => by simp [exps]
  | c :: q, P, h, hf => by
    have i := exps_bd (f := f) (r := r) (M := M) (F := F) q (P ++ [c]) (fun c hc => h c (List.mem_cons_of_mem _ hc)) (fun A B d e => by
      have := hf (c :: A) B d (by rw [e]; rfl)
      simpa using this)
    have h1 := h c (List.mem_cons_self ..)
    have h2 := hf [] q c rfl
    simp only [List.append_nil] at h2
    have h3 : (c r * f (P ++ q)).natAbs ≤ M * F := by rw [Int.natAbs_mul]; exact Nat.mul_le_mul h1 h2
    simp only [exps, List.length_cons, Nat.add_mul, Nat.one_mul]
    omega
theorem det_bd {M : Nat} : ∀ (k r : Nat) (cs : List Vec), cs.length = k → (∀ c ∈ cs, ∀ i, (c i).natAbs ≤ M) → (det k r cs).natAbs ≤ fact k * M ^ k
  | 0, _, _, _, _ => by simp [det, fact]
  | k + 1, r, cs, hl, h => by
    have := exps_bd (f := det k (r + 1)) (r := r) (M := M) (F := fact k * M ^ k) cs [] (fun c hc => h c hc r) (fun A B c e => by
      refine det_bd k (r + 1) _ (by subst e; simp at hl ⊢; omega) (fun d hd i => h d ?_ i)
      subst e
      simp only [List.nil_append, List.mem_append, List.mem_cons] at hd ⊢
      rcases hd with hd | hd
      · exact .inl hd
      · exact .inr (.inr hd))
    rw [hl] at this
    simp only [det, fact, Nat.pow_succ]
    refine Nat.le_trans this (Nat.le_of_eq ?_)
    grind
theorem dt_bd {M : Nat} (cs : List Vec) (h : ∀ c ∈ cs, ∀ i, (c i).natAbs ≤ M) : (dt cs).natAbs ≤ fact cs.length * M ^ cs.length := det_bd _ _ cs rfl h
end Go.Det
namespace Go.Det
def sm (f : Nat → Int) : Nat → Int
  | 0 => 0
  | k + 1 => sm f k + f k
theorem sm_congr {f g : Nat → Int} : ∀ {n : Nat}, (∀ k, k < n → f k = g k) → sm f n = sm g n
  | 0, _ => rfl
  | n + 1, h => by simp only [sm]; rw [sm_congr fun k hk => h k (by omega), h n (by omega)]
theorem sm_zero {f : Nat → Int} : ∀ {n : Nat}, (∀ k, k < n → f k = 0) → sm f n = 0
  | 0, _ => rfl
  | n + 1, h => by simp only [sm]; rw [sm_zero fun k hk => h k (by omega), h n (by omega)]; rfl
theorem sm_mul (c : Int) (f : Nat → Int) : ∀ n : Nat, sm (fun k => c * f k) n = c * sm f n
  | 0 => by simp [sm]
  | n + 1 => by simp only [sm]; rw [sm_mul c f n, Int.mul_add]
theorem sm_add (f g : Nat → Int) : ∀ n : Nat, sm (fun k => f k + g k) n = sm f n + sm g n
  | 0 => rfl
  | n + 1 => by simp only [sm]; rw [sm_add f g n]; omega
theorem sm_one {f : Nat → Int} {i : Nat} : ∀ {n : Nat}, i < n → (∀ k, k < n → k ≠ i → f k = 0) → sm f n = f i
  | 0, h, _ => by omega
  | n + 1, h, hz => by
    simp only [sm]
    by_cases e : i = n
    · subst e; rw [sm_zero fun k hk => hz k (by omega) (by omega)]; omega
    · rw [sm_one (by omega : i < n) fun k hk hki => hz k (by omega) hki, hz n (by omega) (Ne.symm e)]; omega
theorem sm_two {f : Nat → Int} {i r : Nat} : ∀ {n : Nat}, i < n → r < n → i ≠ r → (∀ k, k < n → k ≠ i → k ≠ r → f k = 0) → sm f n = f i + f r
  | 0, h, _, _, _ => by omega
  | n + 1, h, h2, hn, hz => by
    simp only [sm]
    by_cases e : i = n
    · subst e; rw [sm_one (by omega : r < i) fun k hk hki => hz k (by omega) (by omega) hki]; omega
    · by_cases e2 : r = n
      · subst e2; rw [sm_one (by omega : i < r) fun k hk hki => hz k (by omega) hki (by omega)]
      · rw [sm_two (by omega : i < n) (by omega : r < n) hn fun k hk h3 h4 => hz k (by omega) h3 h4, hz n (by omega) (Ne.symm e) (Ne.symm e2)]; omega
theorem sm_pos {f : Nat → Int} : ∀ {n : Nat}, 0 < sm f n → ∃ k, k < n ∧ 0 < f k
  | 0, h => by simp [sm] at h
  | n + 1, h => by
    simp only [sm] at h
    by_cases h1 : 0 < f n
    · exact ⟨n, by omega, h1⟩
    · obtain ⟨k, hk, h2⟩ := sm_pos (f := f) (n := n) (by omega)
      exact ⟨k, by omega, h2⟩
theorem sm_le {f g : Nat → Int} : ∀ {n : Nat}, (∀ k, k < n → f k ≤ g k) → sm f n ≤ sm g n
  | 0, _ => Int.le_refl _
  | n + 1, h => by simp only [sm]; have := sm_le (n := n) fun k hk => h k (by omega); have := h n (by omega); omega
theorem sm_swap (a : Nat → Nat → Int) (m : Nat) : ∀ n : Nat, sm (fun j => sm (fun i => a i j) m) n = sm (fun i => sm (fun j => a i j) n) m
  | 0 => by simp only [sm]; rw [sm_zero]; intros; rfl
  | n + 1 => by simp only [sm]; rw [sm_swap a m n, sm_add]
theorem set_split {α : Type} {l : List α} {i : Nat} (h : i < l.length) (x : α) : l.set i x = l.take i ++ x :: l.drop (i + 1) := List.set_eq_take_append_cons_drop .. |>.trans (by rw [if_pos h])
theorem dt_set_lin {l : List Vec} {i : Nat} (h : i < l.length) (x y : Int) (u w : Vec) : dt (l.set i (lin x u y w)) = x * dt (l.set i u) + y * dt (l.set i w) := by
  rw [set_split h, set_split h, set_split h, dt_lin]
theorem two_split {α : Type} {l : List α} {i r : Nat} (h : i < r) (hr : r < l.length) (x y : α) : ∃ P M C : List α, (l.set i x).set r y = P ++ x :: (M ++ y :: C) ∧ ∀ x' y' : α, (l.set i x').set r y' = P ++ x' :: (M ++ y' :: C) := by
  have key : ∀ x' y' : α, (l.set i x').set r y' = l.take i ++ x' :: ((l.drop (i + 1)).take (r - (i + 1)) ++ y' :: l.drop (r + 1)) := fun x' y' => by
    rw [set_split (by omega) x', List.set_append_right _ _ (by rw [List.length_take]; omega)]
    congr 1
    have e : r - (List.take i l).length = (r - (i + 1)) + 1 := by rw [List.length_take]; omega
    rw [e, List.set_cons_succ, set_split (by rw [List.length_drop]; omega)]
    congr 3
    rw [List.drop_drop]; congr 1; omega
  exact ⟨_, _, _, key x y, key⟩
theorem dt_set_eq {l : List Vec} {i r : Nat} (hi : i < l.length) (hr : r < l.length) (h : i ≠ r) (u : Vec) : dt ((l.set i u).set r u) = 0 := by
  rcases Nat.lt_or_gt_of_ne h with h1 | h1
  · obtain ⟨P, M, C, e, _⟩ := two_split h1 hr u u
    rw [e]; exact dt_eq u M P C
  · rw [List.set_comm _ _ h]
    obtain ⟨P, M, C, e, _⟩ := two_split h1 hi u u
    rw [e]; exact dt_eq u M P C
theorem dt_set_swap {l : List Vec} {i r : Nat} (hi : i < l.length) (hr : r < l.length) (h : i ≠ r) (u w : Vec) : dt ((l.set i u).set r w) = - dt ((l.set i w).set r u) := by
  rcases Nat.lt_or_gt_of_ne h with h1 | h1
  · obtain ⟨P, M, C, _, e⟩ := two_split h1 hr u w
    rw [e, e]; exact dt_swap P M C u w
  · rw [List.set_comm _ _ h, List.set_comm _ _ h]
    obtain ⟨P, M, C, _, e⟩ := two_split h1 hi u w
    rw [e, e]; exact dt_swap P M C w u
def zv : Vec := fun _ => 0
def comb (c : Nat → Int) (u : Nat → Vec) (n : Nat) : Vec := fun i => sm (fun k => c k * u k i) n
theorem dt_set_zero {l : List Vec} {i : Nat} (h : i < l.length) : dt (l.set i zv) = 0 := by
  have := dt_set_lin h 0 0 zv zv
  rw [show lin 0 zv 0 zv = zv from funext fun j => by simp [lin, zv]] at this
  simpa using this
theorem dt_set_comb {l : List Vec} {i : Nat} (h : i < l.length) (c : Nat → Int) (u : Nat → Vec) : ∀ n, dt (l.set i (comb c u n)) = sm (fun k => c k * dt (l.set i (u k))) n
  | 0 => by
    rw [show comb c u 0 = zv by funext j; rfl, dt_set_zero h]; rfl
  | n + 1 => by
    have e : comb c u (n + 1) = lin 1 (comb c u n) (c n) (u n) := by funext j; simp [comb, lin, sm]
    rw [e, dt_set_lin h, dt_set_comb h c u n]; simp [sm]
theorem dt_set_smul {l : List Vec} {i : Nat} (h : i < l.length) (x : Int) (u : Vec) : dt (l.set i (fun j => x * u j)) = x * dt (l.set i u) := by
  have := dt_set_lin h x 0 u zv
  rw [show lin x u 0 zv = fun j => x * u j from funext fun j => by simp [lin]] at this
  rw [this]; simp
section
variable (A : Nat → Vec)
def cols (bs : List Nat) : List Vec := bs.map A
def dD (bs : List Nat) : Int := dt (cols A bs)
def dT (bs : List Nat) (i : Nat) (x : Vec) : Int := dt ((cols A bs).set i x)
end
variable {A : Nat → Vec} {M : Nat} {bs : List Nat}
theorem cols_len : (cols A bs).length = bs.length := by simp [cols]
theorem cols_set (r s : Nat) : cols A (bs.set r s) = (cols A bs).set r (A s) := by simp [cols, List.map_set]
theorem cols_at {k : Nat} (h : k < bs.length) : (cols A bs)[k]? = some (A (bs.getD k 0)) := by simp [cols, List.getD_eq_getElem?_getD, h]
theorem set_same {α : Type} {l : List α} {i : Nat} {x : α} (h : l[i]? = some x) : l.set i x = l := by
  obtain ⟨h1, h2⟩ := List.getElem?_eq_some_iff.1 h
  rw [← h2]; exact List.set_getElem_self h1
theorem dT_own {i : Nat} (h : i < bs.length) : dT A bs i (A (bs.getD i 0)) = dD A bs := by
  unfold dT dD; rw [set_same (cols_at h)]
theorem dT_other {i k : Nat} (hi : i < bs.length) (hk : k < bs.length) (h : k ≠ i) : dT A bs i (A (bs.getD k 0)) = 0 := by
  unfold dT
  have e : (cols A bs).set i (A (bs.getD k 0)) = ((cols A bs).set k (A (bs.getD k 0))).set i (A (bs.getD k 0)) := by rw [set_same (cols_at hk)]
  rw [e]; exact dt_set_eq (by rw [cols_len]; exact hk) (by rw [cols_len]; exact hi) h _
theorem dup_zero {i k : Nat} (hi : i < bs.length) (hk : k < bs.length) (h : k ≠ i) (he : bs.getD i 0 = bs.getD k 0) : dD A bs = 0 := by
  rw [← dT_own hi, he]; exact dT_other hi hk h
structure Bas (A : Nat → Vec) (V : Vec → Prop) (M : Nat) (bs : List Nat) : Prop where
  len : bs.length = M
  ne : dD A bs ≠ 0
  cr : ∀ x, V x → ∀ j, dD A bs * x j = sm (fun k => dT A bs k x * A (bs.getD k 0) j) M
theorem Bas.vec {V : Vec → Prop} (h : Bas A V M bs) {x : Vec} (hx : V x) : (fun j => dD A bs * x j) = comb (fun k => dT A bs k x) (fun k => A (bs.getD k 0)) M := funext fun j => h.cr x hx j
theorem Bas.two {V : Vec → Prop} (h : Bas A V M bs) {l : List Vec} {i : Nat} (hi : i < l.length) {x : Vec} (hx : V x) : dD A bs * dt (l.set i x) = sm (fun k => dT A bs k x * dt (l.set i (A (bs.getD k 0)))) M := by
  rw [← dt_set_smul hi, h.vec hx, dt_set_comb hi]
theorem getD_set' {bs : List Nat} {r s i : Nat} (hr : r < bs.length) : (bs.set r s).getD i 0 = if r = i then s else bs.getD i 0 := by
  simp only [List.getD_eq_getElem?_getD, List.getElem?_set]
  by_cases hp : r = i
  · subst hp; simp [hr]
  · simp [hp]
theorem piv_D (r s : Nat) : dD A (bs.set r s) = dT A bs r (A s) := by unfold dD dT; rw [cols_set]
theorem piv_r (r s : Nat) (x : Vec) : dT A (bs.set r s) r x = dT A bs r x := by unfold dT; rw [cols_set, List.set_set]
theorem Bas.piv_i {V : Vec → Prop} (h : Bas A V M bs) {r s i : Nat} (hr : r < M) (hi : i < M) (hir : i ≠ r) {x : Vec} (hx : V x) :
    dD A bs * dT A (bs.set r s) i x = dT A bs r (A s) * dT A bs i x - dT A bs r x * dT A bs i (A s) := by
  have hl := h.len
  have hcl : (cols A bs).length = M := by rw [cols_len]; exact hl
  have e : dT A (bs.set r s) i x = dt (((cols A bs).set r (A s)).set i x) := by unfold dT; rw [cols_set]
  rw [e, h.two (by rw [List.length_set]; omega) hx]
  rw [sm_two hi hr hir]
  · have e1 : dt (((cols A bs).set r (A s)).set i (A (bs.getD i 0))) = dT A bs r (A s) := by
      rw [List.set_comm _ _ (Ne.symm hir), set_same (cols_at (by omega))]; rfl
    have e2 : dt (((cols A bs).set r (A s)).set i (A (bs.getD r 0))) = - dT A bs i (A s) := by
      rw [dt_set_swap (by omega) (by omega) (Ne.symm hir), set_same (cols_at (by omega))]; rfl
    rw [e1, e2]; grind
  · intro k hk h1 h2
    have e1 : ((cols A bs).set r (A s)).set i (A (bs.getD k 0)) = (((cols A bs).set r (A s)).set k (A (bs.getD k 0))).set i (A (bs.getD k 0)) := by
      rw [List.set_comm (i := r) (j := k) _ _ (Ne.symm h2), set_same (cols_at (by omega))]
    rw [e1, dt_set_eq (by rw [List.length_set]; omega) (by rw [List.length_set]; omega) h1, Int.mul_zero]
theorem piv_l {r s i : Nat} (hr : r < bs.length) (hi : i < bs.length) (hir : i ≠ r) : dT A (bs.set r s) i (A (bs.getD r 0)) = - dT A bs i (A s) := by
  unfold dT
  rw [cols_set, dt_set_swap (by rw [cols_len]; omega) (by rw [cols_len]; omega) (Ne.symm hir), set_same (cols_at hr)]
theorem sm_split {f : Nat → Int} {r : Nat} : ∀ {n : Nat}, r < n → sm f n = sm (fun k => if k = r then 0 else f k) n + f r
  | 0, h => by omega
  | n + 1, h => by
    simp only [sm]
    by_cases e : r = n
    · subst e
      rw [if_pos rfl, sm_congr (f := f) (g := fun k => if k = r then 0 else f k) fun k hk => by rw [if_neg (by omega)]]; omega
    · rw [if_neg (Ne.symm e), sm_split (by omega : r < n)]; omega
theorem Bas.piv {V : Vec → Prop} (h : Bas A V M bs) {r s : Nat} (hr : r < M) (hs : V (A s)) (hp : dT A bs r (A s) ≠ 0) : Bas A V M (bs.set r s) := by
  have hl := h.len
  refine ⟨by rw [List.length_set]; exact hl, by rw [piv_D]; exact hp, fun x hx j => ?_⟩
  have hne := h.ne
  refine Int.eq_of_mul_eq_mul_left hne ?_
  rw [piv_D, ← sm_mul, sm_split hr]
  have e1 : sm (fun k => if k = r then 0 else dD A bs * (dT A (bs.set r s) k x * A ((bs.set r s).getD k 0) j)) M = sm (fun k => if k = r then 0 else (dT A bs r (A s) * dT A bs k x - dT A bs r x * dT A bs k (A s)) * A (bs.getD k 0) j) M := sm_congr fun k hk => by
    by_cases hkr : k = r
    · rw [if_pos hkr, if_pos hkr]
    · rw [if_neg hkr, if_neg hkr, getD_set' (by omega), if_neg (Ne.symm hkr), ← h.piv_i hr hk hkr hx]; grind
  have e2 := sm_split (f := fun k => (dT A bs r (A s) * dT A bs k x - dT A bs r x * dT A bs k (A s)) * A (bs.getD k 0) j) hr
  have e3 : sm (fun k => (dT A bs r (A s) * dT A bs k x - dT A bs r x * dT A bs k (A s)) * A (bs.getD k 0) j) M = dT A bs r (A s) * (dD A bs * x j) - dT A bs r x * (dD A bs * A s j) := by
    rw [h.cr x hx j, h.cr (A s) hs j, ← sm_mul, ← sm_mul]
    have : ∀ f g : Nat → Int, sm f M - sm g M = sm (fun k => f k + (-1) * g k) M := fun f g => by rw [sm_add, sm_mul]; omega
    rw [this]
    exact sm_congr fun k hk => by grind
  rw [e3] at e2
  rw [e1, getD_set' (by omega), if_pos rfl, piv_r]
  have e4 : sm (fun k => if k = r then 0 else (dT A bs r (A s) * dT A bs k x - dT A bs r x * dT A bs k (A s)) * A (bs.getD k 0) j) M = dT A bs r (A s) * (dD A bs * x j) - dT A bs r x * (dD A bs * A s j) := by
    have : (dT A bs r (A s) * dT A bs r x - dT A bs r x * dT A bs r (A s)) * A (bs.getD r 0) j = 0 := by grind
    omega
  rw [e4]; grind
theorem dT_unit {bs : List Nat} (hl : bs.length = M) (hu : ∀ i, i < M → A (bs.getD i 0) = unit i) {x : Vec} (hx : ∀ j, M ≤ j → x j = 0) {i : Nat} (hi : i < M) : dT A bs i x = x i := by
  have hD : dD A bs = 1 := by
    unfold dD
    rw [← dt_unit M]
    congr 1
    apply List.ext_getElem?
    intro k
    by_cases hk : k < M
    · rw [cols_at (by omega), hu k hk]; simp [hk]
    · rw [List.getElem?_eq_none (by rw [cols_len]; omega), List.getElem?_eq_none (by simp; omega)]
  have e : x = comb x unit M := by
    funext j
    unfold comb
    by_cases hj : j < M
    · rw [sm_one hj fun k _ hk => by simp [unit, Ne.symm hk]]; simp [unit]
    · rw [hx j (by omega), sm_zero fun k hk => by rw [show unit k j = 0 from if_neg (by omega), Int.mul_zero]]
  have e2 : dT A bs i x = sm (fun k => x k * dT A bs i (unit k)) M := by
    conv => lhs; rw [e]
    exact dt_set_comb (by rw [cols_len]; omega) x unit M
  rw [e2, sm_one hi fun k hk hki => by rw [← hu k hk, dT_other (by omega) (by omega) hki, Int.mul_zero], ← hu i hi, dT_own (by omega), hD, Int.mul_one]
theorem Bas.start {bs : List Nat} {V : Vec → Prop} (hl : bs.length = M) (hu : ∀ i, i < M → A (bs.getD i 0) = unit i) (hV : ∀ x, V x → ∀ j, M ≤ j → x j = 0) : Bas A V M bs ∧ dD A bs = 1 := by
  have hD : dD A bs = 1 := by
    unfold dD
    rw [← dt_unit M]
    congr 1
    apply List.ext_getElem?
    intro k
    by_cases hk : k < M
    · rw [cols_at (by omega), hu k hk]; simp [hk]
    · rw [List.getElem?_eq_none (by rw [cols_len]; omega), List.getElem?_eq_none (by simp; omega)]
  refine ⟨⟨hl, by rw [hD]; decide, fun x hx j => ?_⟩, hD⟩
  rw [hD, Int.one_mul]
  by_cases hj : j < M
  · rw [sm_one hj fun k hk hkj => by rw [hu k hk]; simp [unit, Ne.symm hkj], dT_unit hl hu (hV x hx) hj, hu j hj]; simp [unit]
  · rw [hV x hx j (by omega), sm_zero fun k hk => by rw [hu k hk, show unit k j = 0 from if_neg (by omega), Int.mul_zero]]
end Go.Det
namespace Go.Det
section
variable (A : Nat → Vec)
def tt (bs : List Nat) (i : Nat) (x : Vec) : Int := (dD A bs).sign * dT A bs i x
def den (bs : List Nat) : Int := (dD A bs).sign * dD A bs
end
variable {A : Nat → Vec} {V : Vec → Prop} {M : Nat} {bs : List Nat}
theorem sgn_sq {d : Int} (h : d ≠ 0) : d.sign * d.sign = 1 := by
  rcases Int.lt_or_gt_of_ne h with h | h
  · rw [Int.sign_eq_neg_one_of_neg h]; rfl
  · rw [Int.sign_eq_one_of_pos h]; rfl
theorem den_pos (h : dD A bs ≠ 0) : 0 < den A bs := by
  unfold den
  rcases Int.lt_or_gt_of_ne h with h | h
  · rw [Int.sign_eq_neg_one_of_neg h]; omega
  · rw [Int.sign_eq_one_of_pos h]; omega
theorem sign_of_mul {d p : Int} (h : d ≠ 0) (hp : 0 < d.sign * p) : p.sign = d.sign := by
  rcases Int.lt_or_gt_of_ne h with h | h
  · rw [Int.sign_eq_neg_one_of_neg h] at hp ⊢; exact Int.sign_eq_neg_one_of_neg (by omega)
  · rw [Int.sign_eq_one_of_pos h] at hp ⊢; exact Int.sign_eq_one_of_pos (by omega)
theorem tt_own (hl : bs.length = M) {i : Nat} (h : i < M) : tt A bs i (A (bs.getD i 0)) = den A bs := by unfold tt den; rw [dT_own (by omega)]
theorem tt_other (hl : bs.length = M) {i k : Nat} (hi : i < M) (hk : k < M) (h : k ≠ i) : tt A bs i (A (bs.getD k 0)) = 0 := by unfold tt; rw [dT_other (by omega) (by omega) h, Int.mul_zero]
theorem Bas.pos {r s : Nat} (h : Bas A V M bs) (hp : 0 < tt A bs r (A s)) : dT A bs r (A s) ≠ 0 := fun e => by unfold tt at hp; rw [e] at hp; simp at hp
theorem Bas.sgn' {r s : Nat} (h : Bas A V M bs) (hp : 0 < tt A bs r (A s)) : (dD A (bs.set r s)).sign = (dD A bs).sign := by
  rw [piv_D]; exact sign_of_mul h.ne hp
theorem Bas.den' {r s : Nat} (h : Bas A V M bs) (hp : 0 < tt A bs r (A s)) : den A (bs.set r s) = tt A bs r (A s) := by
  unfold den; rw [h.sgn' hp, piv_D]; rfl
theorem Bas.tt_r {r s : Nat} (h : Bas A V M bs) (hp : 0 < tt A bs r (A s)) (x : Vec) : tt A (bs.set r s) r x = tt A bs r x := by
  unfold tt; rw [h.sgn' hp, piv_r]
theorem Bas.tt_i {r s i : Nat} (h : Bas A V M bs) (hr : r < M) (hi : i < M) (hir : i ≠ r) (hp : 0 < tt A bs r (A s)) {x : Vec} (hx : V x) :
    den A bs * tt A (bs.set r s) i x = tt A bs r (A s) * tt A bs i x - tt A bs r x * tt A bs i (A s) := by
  have h1 := h.piv_i (s := s) hr hi hir hx
  have h2 := sgn_sq h.ne
  unfold tt den
  rw [h.sgn' hp]
  generalize (dD A bs).sign = σ at *
  grind
theorem Bas.tt_two {bs2 : List Nat} (h : Bas A V M bs) (h2 : Bas A V M bs2) {g : Nat} (hg : g < M) {x : Vec} (hx : V x) : den A bs * tt A bs2 g x = sm (fun k => tt A bs k x * tt A bs2 g (A (bs.getD k 0))) M := by
  have h1 := h.two (l := cols A bs2) (i := g) (by rw [cols_len, h2.len]; exact hg) hx
  unfold tt den
  have e : sm (fun k => (dD A bs).sign * dT A bs k x * ((dD A bs2).sign * dT A bs2 g (A (bs.getD k 0)))) M = (dD A bs).sign * (dD A bs2).sign * sm (fun k => dT A bs k x * dt ((cols A bs2).set g (A (bs.getD k 0)))) M := by
    rw [← sm_mul]
    exact sm_congr fun k _ => by unfold dT; grind
  rw [e, ← h1]; unfold dT; grind
structure Step (A : Nat → Vec) (m g : Nat) (q : Vec) (al : Nat → Prop) (bs : List Nat) (r s : Nat) : Prop where
  row : r < m
  alw : al s
  ent : tt A bs g (A s) < 0
  least : ∀ v, v < s → al v → 0 ≤ tt A bs g (A v)
  lev : 0 < tt A bs r (A s)
  ratio : ∀ i, i < m → 0 < tt A bs i (A s) → tt A bs r q * tt A bs i (A s) ≤ tt A bs i q * tt A bs r (A s)
  tie : ∀ i, i < m → 0 < tt A bs i (A s) → tt A bs r q * tt A bs i (A s) = tt A bs i q * tt A bs r (A s) → bs.getD r 0 ≤ bs.getD i 0
theorem Step.bas {m g r s : Nat} {q : Vec} {al : Nat → Prop} (h : Step A m g q al bs r s) (hB : Bas A V M bs) (hm : m ≤ M) (hA : ∀ v, V (A v)) : Bas A V M (bs.set r s) := hB.piv (by have := h.row; omega) (hA s) (hB.pos h.lev)
theorem Step.feas {m g r s : Nat} {q : Vec} {al : Nat → Prop} (h : Step A m g q al bs r s) (hB : Bas A V M bs) (hm : m ≤ M) (hq : V q) (hf : ∀ i, i < m → 0 ≤ tt A bs i q) : ∀ i, i < m → 0 ≤ tt A (bs.set r s) i q := fun i hi => by
  have hr := h.row
  by_cases hir : i = r
  · subst hir; rw [hB.tt_r h.lev]; exact hf i hi
  · have h1 := hB.tt_i (by omega) (by omega) hir h.lev hq
    have hd := den_pos hB.ne
    have h3 := hf i hi
    have h4 := hf r hr
    have h5 := h.lev
    have key : 0 ≤ den A bs * tt A (bs.set r s) i q := by
      rw [h1]
      by_cases h2 : 0 < tt A bs i (A s)
      · have := h.ratio i hi h2
        have e : tt A bs r (A s) * tt A bs i q = tt A bs i q * tt A bs r (A s) := Int.mul_comm _ _
        omega
      · have a1 : 0 ≤ tt A bs r (A s) * tt A bs i q := Int.mul_nonneg (by omega) h3
        have a2 : tt A bs r q * tt A bs i (A s) ≤ 0 := Int.mul_nonpos_of_nonneg_of_nonpos h4 (by omega)
        omega
    rcases (show tt A (bs.set r s) i q < 0 ∨ 0 ≤ tt A (bs.set r s) i q by omega) with h6 | h6
    · have := Int.mul_neg_of_pos_of_neg hd h6; omega
    · exact h6
theorem divInt_le {a b c d : Int} (hb : 0 < b) (hd : 0 < d) : Rat.divInt a b ≤ Rat.divInt c d ↔ a * d ≤ c * b := by
  rw [Rat.le_iff_sub_nonneg, Rat.divInt_sub_divInt _ _ (by omega) (by omega), Rat.divInt_nonneg_iff_of_pos_right (Int.mul_pos hd hb)]; omega
def ob (A : Nat → Vec) (g : Nat) (q : Vec) (bs : List Nat) : Rat := Rat.divInt (tt A bs g q) (den A bs)
theorem Step.obj {m g r s : Nat} {q : Vec} {al : Nat → Prop} (h : Step A m g q al bs r s) (hB : Bas A V M bs) (hm : m ≤ g) (hg : g < M) (hq : V q) (hA : ∀ v, V (A v)) (hf : ∀ i, i < m → 0 ≤ tt A bs i q) :
    ob A g q bs ≤ ob A g q (bs.set r s) ∧ (ob A g q (bs.set r s) = ob A g q bs → tt A bs r q = 0) := by
  have hr := h.row
  have hd := den_pos hB.ne
  have hd' := den_pos (h.bas hB (by omega) hA).ne
  have h1 := hB.tt_i (i := g) (by omega) hg (by omega) h.lev hq
  have h2 := hB.den' h.lev
  have h3 := h.ent
  have h4 := hf r hr
  unfold ob
  rw [h2] at hd' ⊢
  constructor
  · rw [divInt_le hd hd']
    have a : tt A bs r q * tt A bs g (A s) ≤ 0 := Int.mul_nonpos_of_nonneg_of_nonpos h4 (by omega)
    have e1 : tt A (bs.set r s) g q * den A bs = den A bs * tt A (bs.set r s) g q := Int.mul_comm _ _
    have e2 : tt A bs g q * tt A bs r (A s) = tt A bs r (A s) * tt A bs g q := Int.mul_comm _ _
    omega
  · intro he
    have he' := (Rat.divInt_eq_divInt_iff (by omega) (by omega)).1 he
    have e1 : tt A (bs.set r s) g q * den A bs = den A bs * tt A (bs.set r s) g q := Int.mul_comm _ _
    have e2 : tt A bs g q * tt A bs r (A s) = tt A bs r (A s) * tt A bs g q := Int.mul_comm _ _
    have e3 : tt A bs r q * tt A bs g (A s) = 0 := by omega
    rcases Int.mul_eq_zero.1 e3 with h5 | h5
    · exact h5
    · omega
theorem nat_hole : ∀ (n : Nat) (f : Nat → Nat), (∀ k, f k < n) → ∃ i j, i < j ∧ f i = f j
  | 0, f, h => absurd (h 0) (by omega)
  | n + 1, f, h => by
    by_cases h1 : ∃ a, f a = n
    · obtain ⟨a, ha⟩ := h1
      by_cases h2 : ∃ b, a < b ∧ f b = n
      · obtain ⟨b, hb, hb2⟩ := h2
        exact ⟨a, b, hb, by rw [ha, hb2]⟩
      · obtain ⟨i, j, hij, he⟩ := nat_hole n (fun k => f (a + 1 + k)) (fun k => by
          have := h (a + 1 + k)
          have : f (a + 1 + k) ≠ n := fun e => h2 ⟨a + 1 + k, by omega, e⟩
          omega)
        exact ⟨a + 1 + i, a + 1 + j, by omega, he⟩
    · exact nat_hole n f (fun k => by
        have := h k
        have : f k ≠ n := fun e => h1 ⟨k, e⟩
        omega)
def enc (N : Nat) : List Nat → Nat
  | [] => 0
  | d :: l => d + N * enc N l
theorem enc_lt {N : Nat} : ∀ {l : List Nat}, (∀ d ∈ l, d < N) → enc N l < N ^ l.length
  | [], _ => by simp [enc]
  | d :: l, h => by
    have h1 := h d (List.mem_cons_self ..)
    have h2 := enc_lt (l := l) fun d hd => h d (List.mem_cons_of_mem _ hd)
    simp only [enc, List.length_cons, Nat.pow_succ]
    have h3 : N * (enc N l + 1) ≤ N * N ^ l.length := Nat.mul_le_mul_left _ h2
    rw [Nat.mul_add, Nat.mul_one] at h3
    rw [Nat.mul_comm (N ^ l.length) N]
    omega
theorem enc_inj {N : Nat} : ∀ {l k : List Nat}, (∀ d ∈ l, d < N) → (∀ d ∈ k, d < N) → l.length = k.length → enc N l = enc N k → l = k
  | [], [], _, _, _, _ => rfl
  | d :: l, e :: k, h1, h2, hl, he => by
    have a1 := h1 d (List.mem_cons_self ..)
    have a2 := h2 e (List.mem_cons_self ..)
    simp only [enc] at he
    have m1 : (d + N * enc N l) % N = d := by rw [Nat.add_mul_mod_self_left, Nat.mod_eq_of_lt a1]
    have m2 : (e + N * enc N k) % N = e := by rw [Nat.add_mul_mod_self_left, Nat.mod_eq_of_lt a2]
    have hde : d = e := by rw [← m1, ← m2, he]
    subst hde
    have h3 : N * enc N l = N * enc N k := by omega
    rw [enc_inj (fun d hd => h1 d (List.mem_cons_of_mem _ hd)) (fun d hd => h2 d (List.mem_cons_of_mem _ hd)) (by simpa using hl) (Nat.eq_of_mul_eq_mul_left (by omega) h3)]
  | [], _ :: _, _, _, hl, _ => by simp at hl
  | _ :: _, [], _, _, hl, _ => by simp at hl
theorem list_hole {N M : Nat} (f : Nat → List Nat) (hl : ∀ k, (f k).length = M) (hN : ∀ k, ∀ d ∈ f k, d < N) : ∃ i j, i < j ∧ f i = f j := by
  obtain ⟨i, j, hij, he⟩ := nat_hole (N ^ M) (fun k => enc N (f k)) (fun k => by have := enc_lt (hN k); rwa [hl k] at this)
  exact ⟨i, j, hij, enc_inj (hN i) (hN j) (by rw [hl, hl]) he⟩
theorem exists_max (f : Nat → Nat) (a : Nat) : ∀ n, 0 < n → ∃ e, a ≤ e ∧ e < a + n ∧ ∀ k, a ≤ k → k < a + n → f k ≤ f e
  | 0, h => absurd h (by omega)
  | 1, _ => ⟨a, by omega, by omega, fun k h1 h2 => by
    have : k = a := by omega
    rw [this]; exact Nat.le_refl _⟩
  | n + 2, _ => by
    obtain ⟨e, h1, h2, h3⟩ := exists_max f a (n + 1) (by omega)
    by_cases h4 : f e ≤ f (a + n + 1)
    · refine ⟨a + n + 1, by omega, by omega, fun k hk1 hk2 => ?_⟩
      rcases Nat.lt_or_ge k (a + (n + 1)) with h5 | h5
      · exact Nat.le_trans (h3 k hk1 h5) h4
      · have : k = a + n + 1 := by omega
        rw [this]; exact Nat.le_refl _
    · refine ⟨e, h1, by omega, fun k hk1 hk2 => ?_⟩
      rcases Nat.lt_or_ge k (a + (n + 1)) with h5 | h5
      · exact h3 k hk1 h5
      · have : k = a + n + 1 := by omega
        rw [this]; omega
structure Run (A : Nat → Vec) (V : Vec → Prop) (M m g : Nat) (q : Vec) (al : Nat → Prop) (N : Nat) (B : Nat → List Nat) (r s : Nat → Nat) : Prop where
  bas : Bas A V M (B 0)
  feas : ∀ i, i < m → 0 ≤ tt A (B 0) i q
  hq : V q
  hA : ∀ v, V (A v)
  mg : m ≤ g
  gM : g < M
  step : ∀ k, Step A m g q al (B k) (r k) (s k)
  next : ∀ k, B (k + 1) = (B k).set (r k) (s k)
  few : ∀ d ∈ B 0, d < N
  alN : ∀ v, al v → v < N
section
variable {m g : Nat} {q : Vec} {al : Nat → Prop} {N : Nat} {B : Nat → List Nat} {r s : Nat → Nat}
theorem Run.basA (R : Run A V M m g q al N B r s) : ∀ k, Bas A V M (B k)
  | 0 => R.bas
  | k + 1 => by rw [R.next]; exact (R.step k).bas (R.basA k) (by have := R.mg; have := R.gM; omega) R.hA
theorem Run.feasA (R : Run A V M m g q al N B r s) : ∀ k, ∀ i, i < m → 0 ≤ tt A (B k) i q
  | 0 => R.feas
  | k + 1 => by rw [R.next]; exact (R.step k).feas (R.basA k) (by have := R.mg; have := R.gM; omega) R.hq (R.feasA k)
theorem Run.fewA (R : Run A V M m g q al N B r s) : ∀ k, ∀ d ∈ B k, d < N
  | 0 => R.few
  | k + 1 => fun d hd => by
    rw [R.next] at hd
    rcases List.mem_or_eq_of_mem_set hd with h | h
    · exact R.fewA k d h
    · rw [h]; exact R.alN _ (R.step k).alw
theorem Run.mono (R : Run A V M m g q al N B r s) (a : Nat) : ∀ n, ob A g q (B a) ≤ ob A g q (B (a + n))
  | 0 => Rat.le_refl
  | n + 1 => Rat.le_trans (R.mono a n) (by
    have := ((R.step (a + n)).obj (R.basA _) R.mg R.gM R.hq R.hA (R.feasA _)).1
    rw [← R.next] at this; exact this)
def In (M : Nat) (B : Nat → List Nat) (k v : Nat) : Prop := ∃ i, i < M ∧ (B k).getD i 0 = v
theorem Run.in_next (R : Run A V M m g q al N B r s) {k v : Nat} (h : In M B (k + 1) v) : In M B k v ∨ v = s k := by
  obtain ⟨i, hi, he⟩ := h
  have hr := (R.step k).row
  have hl := (R.basA k).len
  rw [R.next, getD_set' (by have := R.mg; have := R.gM; omega)] at he
  split at he
  · exact .inr he.symm
  · exact .inl ⟨i, hi, he⟩
theorem Run.in_stay (R : Run A V M m g q al N B r s) {k v : Nat} (h : In M B k v) (hn : (B k).getD (r k) 0 ≠ v) : In M B (k + 1) v := by
  obtain ⟨i, hi, he⟩ := h
  have hr := (R.step k).row
  have hl := (R.basA k).len
  refine ⟨i, hi, ?_⟩
  rw [R.next, getD_set' (by have := R.mg; have := R.gM; omega), if_neg (fun e => by rw [e] at hn; exact hn he)]
  exact he
theorem Run.not_in (R : Run A V M m g q al N B r s) (k : Nat) : ¬ In M B k (s k) := fun ⟨i, hi, he⟩ => by
  have h1 := (R.step k).ent
  have hB := R.basA k
  rw [← he] at h1
  by_cases hig : i = g
  · subst hig; rw [tt_own hB.len hi] at h1; have := den_pos hB.ne; omega
  · rw [tt_other hB.len R.gM hi hig] at h1; omega
theorem Run.new_in (R : Run A V M m g q al N B r s) (k : Nat) : In M B (k + 1) (s k) := by
  have hr := (R.step k).row
  have := R.mg
  have := R.gM
  have hl := (R.basA k).len
  exact ⟨r k, by omega, by rw [R.next, getD_set' (by omega), if_pos rfl]⟩
theorem Run.down (R : Run A V M m g q al N B r s) {k0 k1 v : Nat} (hn : ∀ k, k0 ≤ k → k < k1 → s k ≠ v) (a : Nat) (ha : k0 ≤ a) : ∀ n, a + n ≤ k1 → In M B (a + n) v → In M B a v
  | 0, _, h => h
  | n + 1, hle, h => by
    rcases R.in_next h with h1 | h1
    · exact R.down hn a ha n (by omega) h1
    · exact absurd h1.symm (hn (a + n) (by omega) (by omega))
theorem Run.up (R : Run A V M m g q al N B r s) {k0 k1 v : Nat} (hn : ∀ k, k0 ≤ k → k < k1 → (B k).getD (r k) 0 ≠ v) (a : Nat) (ha : k0 ≤ a) : ∀ n, a + n ≤ k1 → In M B a v → In M B (a + n) v
  | 0, _, h => h
  | n + 1, hle, h => R.in_stay (R.up hn a ha n (by omega) h) (hn (a + n) (by omega) (by omega))
theorem Run.goal (R : Run A V M m g q al N B r s) {j : Nat} (hj : m ≤ j) : ∀ k, (B k).getD j 0 = (B 0).getD j 0
  | 0 => rfl
  | k + 1 => by
    have hr := (R.step k).row
    have := R.mg
    have := R.gM
    have hl := (R.basA k).len
    rw [R.next, getD_set' (by omega), if_neg (by omega)]
    exact R.goal hj k
def Zr (A : Nat → Vec) (m : Nat) (q : Vec) (B : Nat → List Nat) (k v : Nat) : Prop := ∀ i, i < m → (B k).getD i 0 = v → tt A (B k) i q = 0
theorem Run.z_fwd (R : Run A V M m g q al N B r s) {k v : Nat} (hd : tt A (B k) (r k) q = 0) (h : Zr A m q B k v) : Zr A m q B (k + 1) v := fun i hi he => by
  have hr := (R.step k).row
  have := R.mg
  have := R.gM
  have hB := R.basA k
  have hl := hB.len
  rw [R.next] at he ⊢
  rw [getD_set' (by omega)] at he
  by_cases hir : r k = i
  · subst hir; rw [hB.tt_r (R.step k).lev]; exact hd
  · rw [if_neg hir] at he
    have h1 := hB.tt_i (by omega) (by omega) (Ne.symm hir) (R.step k).lev R.hq
    rw [h i hi he, hd, Int.mul_zero, Int.zero_mul, Int.sub_zero] at h1
    have := den_pos hB.ne
    rcases Int.mul_eq_zero.1 h1 with h2 | h2
    · omega
    · exact h2
theorem Run.z_bwd (R : Run A V M m g q al N B r s) {k v : Nat} (hd : tt A (B k) (r k) q = 0) (h : Zr A m q B (k + 1) v) : Zr A m q B k v := fun i hi he => by
  have hr := (R.step k).row
  have := R.mg
  have := R.gM
  have hB := R.basA k
  have hl := hB.len
  by_cases hir : r k = i
  · subst hir; exact hd
  · have h2 := h i hi (by rw [R.next, getD_set' (by omega), if_neg hir]; exact he)
    rw [R.next] at h2
    have h1 := hB.tt_i (by omega) (by omega) (Ne.symm hir) (R.step k).lev R.hq
    rw [h2, hd, Int.mul_zero, Int.zero_mul, Int.sub_zero] at h1
    have := (R.step k).lev
    rcases Int.mul_eq_zero.1 h1.symm with h3 | h3
    · omega
    · exact h3
theorem Run.z_all (R : Run A V M m g q al N B r s) {k0 k1 e : Nat} (hd : ∀ k, k0 ≤ k → k < k1 → tt A (B k) (r k) q = 0) (h1 : k0 ≤ e) (h2 : e < k1) : ∀ k, k0 ≤ k → k ≤ k1 → Zr A m q B k (s e) := by
  have h0 : Zr A m q B e (s e) := fun i hi he => absurd ⟨i, by have := R.mg; have := R.gM; omega, he⟩ (R.not_in e)
  have fwd : ∀ n, e + n ≤ k1 → Zr A m q B (e + n) (s e) := fun n => by
    induction n with
    | zero => intro _; exact h0
    | succ n ih => intro hn; exact R.z_fwd (hd (e + n) (by omega) (by omega)) (ih (by omega))
  have bwd : ∀ n, n ≤ e → k0 ≤ e - n → Zr A m q B (e - n) (s e) := fun n => by
    induction n with
    | zero => intro _ _; exact h0
    | succ n ih =>
      intro hn hk
      have := ih (by omega) (by omega)
      have e1 : e - n = (e - (n + 1)) + 1 := by omega
      rw [e1] at this
      exact R.z_bwd (hd _ hk (by omega)) this
  intro k hk1 hk2
  rcases Nat.lt_or_ge k e with h3 | h3
  · have := bwd (e - k) (by omega) (by omega)
    rwa [show e - (e - k) = k by omega] at this
  · have := fwd (k - e) (by omega)
    rwa [show e + (k - e) = k by omega] at this
theorem Run.no (R : Run A V M m g q al N B r s) : False := by
  have hmg := R.mg
  have hgM := R.gM
  obtain ⟨k0, k1, hk, hB⟩ := list_hole B (fun k => (R.basA k).len) R.fewA
  have ob0 : ∀ k, k0 ≤ k → k ≤ k1 → ob A g q (B k) = ob A g q (B k0) := fun k h1 h2 => by
    have a1 := R.mono k0 (k - k0)
    have a2 := R.mono k (k1 - k)
    rw [show k0 + (k - k0) = k by omega] at a1
    rw [show k + (k1 - k) = k1 by omega, ← hB] at a2
    exact Rat.le_antisymm a2 a1
  have hd : ∀ k, k0 ≤ k → k < k1 → tt A (B k) (r k) q = 0 := fun k h1 h2 => by
    refine ((R.step k).obj (R.basA _) R.mg R.gM R.hq R.hA (R.feasA _)).2 ?_
    rw [← R.next, ob0 (k + 1) (by omega) (by omega), ob0 k (by omega) (by omega)]
  have fick : ∀ a b v, k0 ≤ a → a ≤ k1 → k0 ≤ b → b ≤ k1 → In M B a v → ¬ In M B b v → ∃ k, k0 ≤ k ∧ k < k1 ∧ s k = v := fun a b v ha1 ha2 hb1 hb2 hi hn => by
    refine Classical.byContradiction fun hno => ?_
    have hne : ∀ k, k0 ≤ k → k < k1 → s k ≠ v := fun k h1 h2 h3 => hno ⟨k, h1, h2, h3⟩
    have i0 := R.down hne k0 (Nat.le_refl _) (a - k0) (by omega) (by rw [show k0 + (a - k0) = a by omega]; exact hi)
    have i1 : In M B k1 v := by obtain ⟨i, h1, h2⟩ := i0; exact ⟨i, h1, by rw [← hB]; exact h2⟩
    exact hn (R.down hne b hb1 (k1 - b) (by omega) (by rw [show b + (k1 - b) = k1 by omega]; exact i1))
  obtain ⟨e, he1, he2, hmax⟩ := exists_max s k0 (k1 - k0) (by omega)
  rw [show k0 + (k1 - k0) = k1 by omega] at he2 hmax
  have hleave : ∃ d, k0 ≤ d ∧ d < k1 ∧ (B d).getD (r d) 0 = s e := by
    refine Classical.byContradiction fun hno => ?_
    have hne : ∀ k, k0 ≤ k → k < k1 → (B k).getD (r k) 0 ≠ s e := fun k h1 h2 h3 => hno ⟨k, h1, h2, h3⟩
    have i1 := R.up hne (e + 1) (by omega) (k1 - (e + 1)) (by omega) (R.new_in e)
    rw [show e + 1 + (k1 - (e + 1)) = k1 by omega] at i1
    have i0 : In M B k0 (s e) := by obtain ⟨i, h1, h2⟩ := i1; exact ⟨i, h1, by rw [hB]; exact h2⟩
    have i2 := R.up hne k0 (Nat.le_refl _) (e - k0) (by omega) i0
    rw [show k0 + (e - k0) = e by omega] at i2
    exact R.not_in e i2
  obtain ⟨d, hd1, hd2, hdl⟩ := hleave
  have Sd := R.step d
  have Se := R.step e
  have Bd := R.basA d
  have Be := R.basA e
  have hrd := Sd.row
  have hsne : s d ≠ s e := fun h => R.not_in d ⟨r d, by omega, by rw [hdl, h]⟩
  have hslt : s d < s e := by have := hmax d hd1 hd2; omega
  have two := Bd.tt_two Be hgM (R.hA (s d))
  have lhs := Se.least (s d) hslt Sd.alw
  have dd := den_pos Bd.ne
  have de := den_pos Be.ne
  rw [sm_split hgM] at two
  have hg0 : tt A (B e) g (A ((B d).getD g 0)) = den A (B e) := by
    rw [R.goal hmg d, ← R.goal hmg e]; exact tt_own Be.len hgM
  rw [hg0] at two
  have t1 := Int.mul_neg_of_neg_of_pos Sd.ent de
  have t2 := Int.mul_nonneg (Int.le_of_lt dd) lhs
  obtain ⟨k, hkM, hkp⟩ := sm_pos (f := fun k => if k = g then 0 else tt A (B d) k (A (s d)) * tt A (B e) g (A ((B d).getD k 0))) (n := M) (by omega)
  by_cases hkg : k = g
  · rw [if_pos hkg] at hkp; omega
  rw [if_neg hkg] at hkp
  have hfac : tt A (B e) g (A ((B d).getD k 0)) ≠ 0 := fun h => by rw [h, Int.mul_zero] at hkp; omega
  have hnin : ¬ In M B e ((B d).getD k 0) := fun ⟨i, hi, hie⟩ => by
    by_cases hig : i = g
    · subst hig
      have h1 := R.goal hmg e
      rw [R.goal hmg e, ← R.goal hmg d] at hie
      exact Bd.ne (dup_zero (i := i) (k := k) (by rw [Bd.len]; omega) (by rw [Bd.len]; omega) hkg hie)
    · rw [← hie] at hfac
      exact hfac (tt_other Be.len hgM hi hig)
  have hin : In M B d ((B d).getD k 0) := ⟨k, hkM, rfl⟩
  have hkm : k < m := by
    rcases Nat.lt_or_ge k m with h | h
    · exact h
    · exact absurd ⟨k, hkM, by rw [R.goal h e, ← R.goal h d]⟩ hnin
  obtain ⟨f, hf1, hf2, hf3⟩ := fick d e _ hd1 (by omega) he1 (by omega) hin hnin
  have hfle := hmax f hf1 hf2
  rw [hf3] at hfle
  have hZ := R.z_all hd hf1 hf2 d hd1 (by omega) k hkm hf3.symm
  have halw : al ((B d).getD k 0) := by rw [← hf3]; exact (R.step f).alw
  by_cases hkt : (B d).getD k 0 = s e
  · have hkr : k = r d := Classical.byContradiction fun h => Bd.ne (dup_zero (i := r d) (k := k) (by rw [Bd.len]; omega) (by rw [Bd.len]; omega) h (by rw [hdl, hkt]))
    rw [hkt, hkr] at hkp
    have := Int.mul_neg_of_pos_of_neg Sd.lev Se.ent
    omega
  · have h1 := Se.least _ (by omega) halw
    have h2 : 0 < tt A (B e) g (A ((B d).getD k 0)) := by omega
    have h3 : 0 < tt A (B d) k (A (s d)) := by
      rcases (show 0 < tt A (B d) k (A (s d)) ∨ tt A (B d) k (A (s d)) ≤ 0 by omega) with h | h
      · exact h
      · have := Int.mul_nonpos_of_nonpos_of_nonneg h h1; omega
    have h4 := Sd.tie k hkm h3 (by rw [hd d hd1 hd2, hZ, Int.zero_mul, Int.zero_mul])
    rw [hdl] at h4
    omega
end
end Go.Det
namespace Go.Det
variable {A : Nat → Vec} {V : Vec → Prop} {M : Nat} {bs : List Nat}
theorem Bas.gen {r s i : Nat} (h : Bas A V M bs) (hr : r < M) (hi : i < M) (hir : i ≠ r) {x : Vec} (hx : V x) :
    den A bs * ((dD A bs).sign * dT A (bs.set r s) i x) = tt A bs r (A s) * tt A bs i x - tt A bs r x * tt A bs i (A s) := by
  have h1 := h.piv_i (s := s) hr hi hir hx
  have h2 := sgn_sq h.ne
  unfold tt den
  generalize (dD A bs).sign = σ at *
  grind
theorem sign_neg {d p : Int} (h : d ≠ 0) (hp : d.sign * p < 0) : p.sign = - d.sign := by
  rcases Int.lt_or_gt_of_ne h with h | h
  · rw [Int.sign_eq_neg_one_of_neg h] at hp ⊢; exact Int.sign_eq_one_of_pos (by omega)
  · rw [Int.sign_eq_one_of_pos h] at hp ⊢; exact Int.sign_eq_neg_one_of_neg (by omega)
theorem Bas.gsgn {r s : Nat} (h : Bas A V M bs) (hp : tt A bs r (A s) ≠ 0) : (dD A (bs.set r s)).sign = (dD A bs).sign ∧ 0 < tt A bs r (A s) ∨ (dD A (bs.set r s)).sign = -(dD A bs).sign ∧ tt A bs r (A s) < 0 := by
  rcases Int.lt_or_gt_of_ne hp with h1 | h1
  · exact .inr ⟨by rw [piv_D]; exact sign_neg h.ne h1, h1⟩
  · exact .inl ⟨by rw [piv_D]; exact sign_of_mul h.ne h1, h1⟩
theorem Bas.gne {r s : Nat} (h : Bas A V M bs) (hp : tt A bs r (A s) ≠ 0) : dT A bs r (A s) ≠ 0 := fun e => by unfold tt at hp; rw [e] at hp; simp at hp
end Go.Det
namespace Go.Proofs.YtdhmbgogmoaofaaGreat
open Go.Own Go.Limbs Go.Det
structure View (A : Nat → Vec) (V : Vec → Prop) (M m : Nat) (q : Vec) (T : Tv) (bs : List Nat) : Prop where
  bas : Bas A V M bs
  den : T.den = Go.Det.den A bs
  num : ∀ i, i < T.rows.length → ∀ j, j < T.col.length → T.at i j = tt A bs i (A (T.col.getD j 0).toNat)
  rhs : ∀ i, i < T.rows.length → T.at i T.col.length = tt A bs i q
  basl : T.bas.length = m
  basv : ∀ i, i < m → T.bas.getD i 0 = (bs.getD i 0 : Nat)
  colv : ∀ j, 0 ≤ T.col.getD j 0
  row : ∀ i, i < T.rows.length → (T.rows.getD i []).length = T.col.length + 1
  rm : m ≤ T.rows.length
  rM : T.rows.length ≤ M
theorem at_neg {rows : List (List Int)} {i j : Nat} : ((rows.map negL).getD i []).getD j 0 = -((rows.getD i []).getD j 0) := by
  simp only [List.getD_eq_getElem?_getD, List.getElem?_map]
  cases h : rows[i]? with
  | none => simp
  | some l =>
    simp only [Option.map_some, Option.getD_some, negL, List.getElem?_map]
    cases h2 : l[j]? with
    | none => simp
    | some x => simp
theorem pvt_raw {T : Tv} {r s i j : Nat} (hi : i < T.rows.length) (hr : r < T.rows.length) (hrow : (T.rows.getD i []).length = T.col.length + 1) (hs : s < T.col.length + 1) (hj : j < T.col.length + 1) :
    (((pvRows T r s T.rows.length).set r ((T.rows.getD r []).set s T.den)).getD i []).getD j 0 =
      if i = r then (if j = s then T.den else T.at r j) else if j = s then -(T.at i s) else (T.at i j * T.at r s + -(T.at r j * T.at i s)).tdiv T.den := by
  by_cases hir : i = r
  · subst hir
    rw [set_getD (by rw [pvRows_len]; exact hi), if_pos rfl, if_pos rfl]
    rw [set_getD (by omega)]
    by_cases hjs : j = s
    · subst hjs; simp
    · rw [if_neg (Ne.symm hjs), if_neg hjs]
  · rw [set_getD (by rw [pvRows_len]; exact hr), if_neg (Ne.symm hir), if_neg hir]
    unfold pvRows
    rw [range_getD _ _ _ hi, if_pos ⟨hi, hir⟩]
    unfold pvRow
    rw [range_getD _ _ _ (by omega)]
    unfold pvZ
    by_cases hjs : j = s
    · rw [if_pos hjs]
    · rw [if_neg hjs]
theorem pvt_at {T : Tv} {r s i j : Nat} (hi : i < T.rows.length) (hr : r < T.rows.length) (hrow : (T.rows.getD i []).length = T.col.length + 1) (hs : s < T.col.length + 1) (hj : j < T.col.length + 1) :
    (pvt T r s).at i j = (if T.at r s < 0 then -1 else 1) * (if i = r then (if j = s then T.den else T.at r j) else if j = s then -(T.at i s) else (T.at i j * T.at r s + -(T.at r j * T.at i s)).tdiv T.den) := by
  have h := pvt_raw hi hr hrow hs hj
  unfold Tv.at pvt
  by_cases hp : T.at r s < 0
  · simp only [if_pos hp]
    rw [at_neg, h]; unfold Tv.at; grind
  · simp only [if_neg hp]
    rw [h]; unfold Tv.at; grind
theorem set_getDI {l : List Int} {i j : Nat} {x : Int} (h : i < l.length) : (l.set i x).getD j 0 = if i = j then x else l.getD j 0 := set_getD h
theorem pvt_rowlen {T : Tv} {r s i : Nat} (hi : i < T.rows.length) (hr : r < T.rows.length) : ((pvt T r s).rows.getD i []).length = (T.rows.getD i []).length := by
  have key : (((pvRows T r s T.rows.length).set r ((T.rows.getD r []).set s T.den)).getD i []).length = (T.rows.getD i []).length := by
    by_cases hir : i = r
    · subst hir; rw [set_getD (by rw [pvRows_len]; exact hi), if_pos rfl, List.length_set]
    · rw [set_getD (by rw [pvRows_len]; exact hr), if_neg (Ne.symm hir)]
      unfold pvRows
      rw [range_getD _ _ _ hi, if_pos ⟨hi, hir⟩, pvRow_len]
  unfold pvt
  by_cases hp : T.at r s < 0
  · simp only [if_pos hp]
    rw [← key]
    simp only [List.getD_eq_getElem?_getD, List.getElem?_map]
    cases (((pvRows T r s T.rows.length).set r ((T.rows[r]?.getD []).set s T.den))[i]?) with
    | none => simp
    | some l => simp [negL]
  · simp only [if_neg hp]; exact key
theorem View.pvt {A : Nat → Vec} {V : Vec → Prop} {M m : Nat} {q : Vec} {T : Tv} {bs : List Nat} (h : View A V M m q T bs) (hq : V q) (hA : ∀ v, V (A v)) {r s : Nat} (hr : r < m) (hs : s < T.col.length) (hp : T.at r s ≠ 0) :
    View A V M m q (pvt T r s) (bs.set r (T.col.getD s 0).toNat) := by
  have hrl : r < T.rows.length := by have := h.rm; omega
  have hrM : r < M := by have := h.rM; omega
  have hlen := h.bas.len
  have ep := h.num r hrl s hs
  have hne : tt A bs r (A (T.col.getD s 0).toNat) ≠ 0 := by rw [← ep]; exact hp
  have hB := h.bas.piv hrM (hA (T.col.getD s 0).toNat) (h.bas.gne hne)
  have hsg := h.bas.gsgn hne
  have hd := den_pos h.bas.ne
  rw [← ep] at hsg
  have one : ∀ i, i < T.rows.length → ∀ x, V x → ∀ j, j < T.col.length + 1 → j ≠ s → T.at i j = tt A bs i x → T.at r j = tt A bs r x → (Go.Proofs.YtdhmbgogmoaofaaGreat.pvt T r s).at i j = tt A (bs.set r (T.col.getD s 0).toNat) i x := by
    intro i hi x hx j hj hjs e1 e2
    rw [pvt_at hi hrl (h.row i hi) (by omega) hj]
    by_cases hir : i = r
    · subst hir
      rw [if_pos rfl, if_neg hjs, e2]
      unfold tt
      rw [piv_r]
      rcases hsg with ⟨h1, h2⟩ | ⟨h1, h2⟩
      · rw [if_neg (by omega), h1, Int.one_mul]
      · rw [if_pos h2, h1, Int.neg_mul, Int.neg_mul, Int.one_mul]
    · rw [if_neg hir, if_neg hjs]
      have hg := h.bas.gen (s := (T.col.getD s 0).toNat) hrM (by have := h.rM; omega) hir hx
      rw [e1, e2, ep, h.num i hi s hs, h.den]
      have e3 : tt A bs i x * tt A bs r (A (T.col.getD s 0).toNat) + -(tt A bs r x * tt A bs i (A (T.col.getD s 0).toNat)) = Go.Det.den A bs * ((dD A bs).sign * dT A (bs.set r (T.col.getD s 0).toNat) i x) := by rw [hg, Int.mul_comm (tt A bs i x)]; omega
      rw [e3, Int.mul_tdiv_cancel_left _ (by omega)]
      unfold tt
      rw [ep] at hsg
      unfold tt at hsg
      rcases hsg with ⟨h1, h2⟩ | ⟨h1, h2⟩
      · rw [if_neg (by omega), h1, Int.one_mul]
      · rw [if_pos h2, h1, Int.neg_mul, Int.neg_mul, Int.one_mul]
  have two : ∀ i, i < T.rows.length → (Go.Proofs.YtdhmbgogmoaofaaGreat.pvt T r s).at i s = tt A (bs.set r (T.col.getD s 0).toNat) i (A (bs.getD r 0)) := by
    intro i hi
    rw [pvt_at hi hrl (h.row i hi) (by omega) (by omega), if_pos rfl, if_pos rfl]
    unfold tt
    by_cases hir : i = r
    · subst hir
      rw [if_pos rfl, piv_r, dT_own (by omega), h.den]
      unfold Go.Det.den
      rcases hsg with ⟨h1, h2⟩ | ⟨h1, h2⟩
      · rw [if_neg (by omega), h1, Int.one_mul]
      · rw [if_pos h2, h1, Int.neg_mul, Int.neg_mul, Int.one_mul]
    · rw [if_neg hir, piv_l (by omega) (by have := h.rM; omega) hir, h.num i hi s hs]
      unfold tt
      rcases hsg with ⟨h1, h2⟩ | ⟨h1, h2⟩
      · rw [if_neg (by omega), h1, Int.one_mul, Int.mul_neg]
      · rw [if_pos h2, h1]; grind
  refine ⟨hB, ?_, fun i hi j hj => ?_, fun i hi => ?_, by rw [pvt_bas]; exact h.basl, fun i hi => ?_, fun j => ?_, fun i hi => ?_, by rw [pvt_rows]; exact h.rm, by rw [pvt_rows]; exact h.rM⟩
  · show (if T.at r s < 0 then -(T.at r s) else T.at r s) = _
    unfold Go.Det.den
    rw [piv_D] at hsg ⊢
    rw [ep] at hsg ⊢
    unfold tt at hsg ⊢
    rcases hsg with ⟨h1, h2⟩ | ⟨h1, h2⟩
    · rw [if_neg (by omega), h1]
    · rw [if_pos h2, h1, Int.neg_mul]
  · rw [pvt_rows] at hi
    rw [pvt_col] at hj
    show _ = tt A _ i (A ((T.col.set s (T.bas.getD r 0)).getD j 0).toNat)
    rw [set_getDI hs]
    by_cases hjs : s = j
    · subst hjs
      rw [if_pos rfl, h.basv r hr, Int.toNat_natCast]; exact two i hi
    · rw [if_neg hjs]
      exact one i hi _ (hA _) j (by omega) (Ne.symm hjs) (h.num i hi j hj) (h.num r hrl j hj)
  · rw [pvt_rows] at hi
    rw [pvt_col]
    exact one i hi q hq T.col.length (by omega) (by omega) (h.rhs i hi) (h.rhs r hrl)
  · show (T.bas.set r (T.col.getD s 0)).getD i 0 = _
    rw [set_getDI (by rw [h.basl]; exact hr), getD_set' (by omega)]
    by_cases hir : r = i
    · rw [if_pos hir, if_pos hir]; have := h.colv s; omega
    · rw [if_neg hir, if_neg hir]; exact h.basv i hi
  · show 0 ≤ (T.col.set s (T.bas.getD r 0)).getD j 0
    rw [set_getDI hs]
    split
    · rw [h.basv r hr]; omega
    · exact h.colv j
  · rw [pvt_rows] at hi
    rw [pvt_rowlen hi hrl, pvt_col]; exact h.row i hi
theorem entS_none {gr col : List Int} : ∀ {j : Nat}, entS gr col j < 0 → ∀ k, k < j → 0 ≤ gr.getD k 0
  | 0, _, k, hk => by omega
  | j + 1, h, k, hk => by
    simp only [entS] at h
    by_cases hc : gr.getD j 0 < 0 ∧ (entS gr col j < 0 ∨ col.getD j 0 < col.getD (entS gr col j).toNat 0)
    · rw [if_pos hc] at h; omega
    · rw [if_neg hc] at h
      by_cases hkj : k = j
      · subst hkj
        by_cases h5 : gr.getD k 0 < 0
        · exact absurd ⟨h5, .inl h⟩ hc
        · omega
      · exact entS_none h k (by omega)
theorem entS_hit {gr col : List Int} : ∀ {j : Nat}, 0 ≤ entS gr col j → gr.getD (entS gr col j).toNat 0 < 0 ∧ ∀ k, k < j → gr.getD k 0 < 0 → col.getD (entS gr col j).toNat 0 ≤ col.getD k 0
  | 0, h => by simp [entS] at h
  | j + 1, h => by
    simp only [entS] at h ⊢
    by_cases hc : gr.getD j 0 < 0 ∧ (entS gr col j < 0 ∨ col.getD j 0 < col.getD (entS gr col j).toNat 0)
    · rw [if_pos hc, Int.toNat_natCast]
      refine ⟨hc.1, fun k hk hk2 => ?_⟩
      by_cases hkj : k = j
      · subst hkj; exact Int.le_refl _
      · rcases hc.2 with h2 | h2
        · exact absurd hk2 (by have := (entS_none (gr := gr) (col := col) h2) k (by omega); omega)
        · by_cases h3 : 0 ≤ entS gr col j
          · have := (entS_hit h3).2 k (by omega) hk2; omega
          · exact absurd hk2 (by have := (entS_none (gr := gr) (col := col) (j := j) (by omega)) k (by omega); omega)
    · rw [if_neg hc] at h ⊢
      have ih := entS_hit h
      refine ⟨ih.1, fun k hk hk2 => ?_⟩
      by_cases hkj : k = j
      · subst hkj
        have : ¬ (col.getD k 0 < col.getD (entS gr col k).toNat 0) := fun h4 => hc ⟨hk2, .inr h4⟩
        omega
      · exact ih.2 k (by omega) hk2
theorem levS_none {T : Tv} {s : Nat} : ∀ {j : Nat}, levS T s j < 0 → ∀ k, k < j → T.at k s ≤ 0
  | 0, _, k, hk => by omega
  | j + 1, h, k, hk => by
    simp only [levS] at h
    by_cases h1 : T.at j s ≤ 0
    · rw [if_pos h1] at h
      by_cases hkj : k = j
      · subst hkj; exact h1
      · exact levS_none h k (by omega)
    · rw [if_neg h1] at h
      split at h
      · omega
      · split at h
        · omega
        · rename_i h2 _; exact absurd h h2
theorem ratio_trans {a b c d e f : Int} (hd : 0 < d) (hb : 0 < b) (hf : 0 < f) (h1 : a * d ≤ c * b) (h2 : c * f ≤ e * d) : a * f ≤ e * b ∧ (a * f = e * b → a * d = c * b ∧ c * f = e * d) := by
  have e1 : a * d * f ≤ c * b * f := Int.mul_le_mul_of_nonneg_right h1 (by omega)
  have e2 : c * f * b ≤ e * d * b := Int.mul_le_mul_of_nonneg_right h2 (by omega)
  have e3 : (a * f) * d ≤ (e * b) * d := by grind
  constructor
  · exact Int.le_of_mul_le_mul_right e3 hd
  · intro h3
    have e4 : a * f * d = e * b * d := by rw [h3]
    have q1 : a * d * f = a * f * d := by grind
    have q2 : c * b * f = c * f * b := by grind
    have q3 : e * d * b = e * b * d := by grind
    constructor
    · have : a * d * f = c * b * f := by omega
      exact Int.eq_of_mul_eq_mul_right (by omega) this
    · have : c * f * b = e * d * b := by omega
      exact Int.eq_of_mul_eq_mul_right (by omega) this
theorem levS_hit {T : Tv} {s : Nat} : ∀ {j : Nat}, 0 ≤ levS T s j → 0 < T.at (levS T s j).toNat s ∧ ∀ k, k < j → 0 < T.at k s →
    T.at (levS T s j).toNat T.col.length * T.at k s ≤ T.at k T.col.length * T.at (levS T s j).toNat s ∧ (T.at (levS T s j).toNat T.col.length * T.at k s = T.at k T.col.length * T.at (levS T s j).toNat s → T.bas.getD (levS T s j).toNat 0 ≤ T.bas.getD k 0)
  | 0, h => by simp [levS] at h
  | j + 1, h => by
    simp only [levS] at h ⊢
    by_cases h1 : T.at j s ≤ 0
    · rw [if_pos h1] at h ⊢
      have ih := levS_hit h
      refine ⟨ih.1, fun k hk hk2 => ?_⟩
      by_cases hkj : k = j
      · subst hkj; omega
      · exact ih.2 k (by omega) hk2
    · rw [if_neg h1] at h ⊢
      by_cases h2 : levS T s j < 0
      · rw [if_pos h2, Int.toNat_natCast]
        refine ⟨by omega, fun k hk hk2 => ?_⟩
        by_cases hkj : k = j
        · subst hkj; exact ⟨Int.le_refl _, fun _ => Int.le_refl _⟩
        · have := levS_none h2 k (by omega); omega
      · rw [if_neg h2] at h ⊢
        have ih := levS_hit (T := T) (s := s) (j := j) (by omega)
        generalize (levS T s j) = l at *
        by_cases h3 : T.at j T.col.length * T.at l.toNat s + -(T.at l.toNat T.col.length * T.at j s) < 0 ∨ (T.at j T.col.length * T.at l.toNat s + -(T.at l.toNat T.col.length * T.at j s) = 0 ∧ T.bas.getD j 0 < T.bas.getD l.toNat 0)
        · rw [if_pos h3, Int.toNat_natCast]
          refine ⟨by omega, fun k hk hk2 => ?_⟩
          by_cases hkj : k = j
          · subst hkj; exact ⟨Int.le_refl _, fun _ => Int.le_refl _⟩
          · have i2 := ih.2 k (by omega) hk2
            have r := ratio_trans ih.1 (show 0 < T.at j s by omega) hk2 (a := T.at j T.col.length) (c := T.at l.toNat T.col.length) (e := T.at k T.col.length) (by omega) i2.1
            refine ⟨r.1, fun he => ?_⟩
            have r2 := r.2 he
            have := i2.2 r2.2
            rcases h3 with h3 | h3
            · omega
            · omega
        · rw [if_neg h3]
          refine ⟨ih.1, fun k hk hk2 => ?_⟩
          by_cases hkj : k = j
          · subst hkj
            refine ⟨by omega, fun he => ?_⟩
            have : ¬ (T.bas.getD k 0 < T.bas.getD l.toNat 0) := fun h5 => h3 (.inr ⟨by omega, h5⟩)
            omega
          · exact ih.2 k (by omega) hk2
end Go.Proofs.YtdhmbgogmoaofaaGreat
namespace Go.Proofs.YtdhmbgogmoaofaaGreat
open Go.Own Go.Limbs Go.Det
structure Sys (A : Nat → Vec) (V : Vec → Prop) (M : Nat) (q : Vec) : Prop where
  hq : V q
  hA : ∀ v, V (A v)
  smT : ∀ bs i x, bs.length = M → i < M → V x → x = q ∨ (∃ v, x = A v) → (dT A bs i x).natAbs < 1073741824 ^ 60
  smD : ∀ bs, bs.length = M → (dD A bs).natAbs < 1073741824 ^ 60
structure Cov (W m : Nat) (T : Tv) (bs : List Nat) : Prop where
  all : ∀ v, v < W → (∃ i, i < m ∧ bs.getD i 0 = v) ∨ ∃ j, j < T.col.length ∧ T.col.getD j 0 = (v : Int)
  col : ∀ j, j < T.col.length → T.col.getD j 0 < (W : Int)
  bas : ∀ i, i < m → bs.getD i 0 < W
  dis : ∀ j i, j < T.col.length → i < m → T.col.getD j 0 ≠ (bs.getD i 0 : Nat)
  inj : ∀ j k, j < T.col.length → k < T.col.length → j ≠ k → T.col.getD j 0 ≠ T.col.getD k 0
structure Good (A : Nat → Vec) (V : Vec → Prop) (M m : Nat) (q : Vec) (W : Nat) (T : Tv) (bs : List Nat) : Prop where
  view : View A V M m q T bs
  cov : Cov W m T bs
  feas : ∀ i, i < m → 0 ≤ tt A bs i q
  hl : T.hl.length = T.rows.length
  few : T.rows.length ≤ 100
  thin : T.col.length ≤ 100
section
variable {A : Nat → Vec} {V : Vec → Prop} {M m W : Nat} {q : Vec} {T : Tv} {bs : List Nat}
theorem tt_small (h : Sys A V M q) {i : Nat} {x : Vec} (hl : bs.length = M) (hi : i < M) (hx : V x) (hx2 : x = q ∨ ∃ v, x = A v) : (limbs (tt A bs i x).natAbs).length ≤ 60 := by
  refine limbs_length_le (Nat.lt_of_le_of_lt ?_ (h.smT bs i x hl hi hx hx2))
  unfold tt
  rw [Int.natAbs_mul]
  have : (dD A bs).sign.natAbs ≤ 1 := by rw [Int.natAbs_sign]; split <;> omega
  exact Nat.le_trans (Nat.mul_le_mul_right _ this) (by omega)
theorem den_small (h : Sys A V M q) (hl : bs.length = M) : (limbs (Go.Det.den A bs).natAbs).length ≤ 60 := by
  refine limbs_length_le (Nat.lt_of_le_of_lt ?_ (h.smD bs hl))
  unfold Go.Det.den
  rw [Int.natAbs_mul]
  have : (dD A bs).sign.natAbs ≤ 1 := by rw [Int.natAbs_sign]; split <;> omega
  exact Nat.le_trans (Nat.mul_le_mul_right _ this) (by omega)
theorem View.gd (h : View A V M m q T bs) (hS : Sys A V M q) (hl : T.hl.length = T.rows.length) (hf : T.rows.length ≤ 100) (ht : T.col.length ≤ 100) : Gd T := by
  refine ⟨⟨hl, h.row, by rw [h.basl]; exact h.rm, hf, ht⟩, fun i j => ?_, by rw [h.den]; exact den_pos h.bas.ne, by rw [h.den]; exact den_small hS h.bas.len⟩
  by_cases hi : i < T.rows.length
  · have hiM : i < M := by have := h.rM; omega
    by_cases hj : j < T.col.length
    · rw [h.num i hi j hj]; exact tt_small hS h.bas.len hiM (hS.hA _) (.inr ⟨_, rfl⟩)
    · by_cases hj2 : j = T.col.length
      · rw [hj2, h.rhs i hi]; exact tt_small hS h.bas.len hiM hS.hq (.inl rfl)
      · have : T.at i j = 0 := by
          unfold Tv.at; exact getD_ge (by rw [h.row i hi]; omega)
        rw [this]; rw [show (0 : Int).natAbs = 0 from rfl, limbs_zero]; decide
  · have : T.at i j = 0 := by
      unfold Tv.at
      have : T.rows.getD i [] = [] := by rw [List.getD_eq_getElem?_getD, List.getElem?_eq_none (by omega)]; rfl
      rw [this]; rfl
    rw [this]; rw [show (0 : Int).natAbs = 0 from rfl, limbs_zero]; decide
theorem Cov.pvt (h : Cov W m T bs) (hv : View A V M m q T bs) {r s : Nat} (hr : r < m) (hs : s < T.col.length) : Cov W m (pvt T r s) (bs.set r (T.col.getD s 0).toNat) := by
  have hlen := hv.bas.len
  have hrM : r < M := by have := hv.rm; have := hv.rM; omega
  have hc := hv.colv s
  have hcW := h.col s hs
  have hne := hv.bas.ne
  have key : ∀ j, (Go.Proofs.YtdhmbgogmoaofaaGreat.pvt T r s).col.getD j 0 = if s = j then ((bs.getD r 0 : Nat) : Int) else T.col.getD j 0 := fun j => by
    show (T.col.set s (T.bas.getD r 0)).getD j 0 = _
    rw [set_getDI hs, hv.basv r hr]
  have hmM : m ≤ M := Nat.le_trans hv.rm hv.rM
  have bdis : ∀ i, i < m → i ≠ r → bs.getD i 0 ≠ bs.getD r 0 := fun i hi hir e => hne (dup_zero (i := r) (k := i) (by omega) (by omega) hir e.symm)
  refine ⟨fun v hvW => ?_, fun j hj => ?_, fun i hi => ?_, fun j i hj hi => ?_, fun j k hj hk hjk => ?_⟩
  rotate_left
  rotate_left
  rotate_left
  · rw [pvt_col] at hj
    rw [key, getD_set' (by omega)]
    by_cases h1 : s = j
    · rw [if_pos h1]
      by_cases h2 : r = i
      · rw [if_pos h2]
        have := h.dis s r hs hr
        omega
      · rw [if_neg h2]
        have := bdis i hi (Ne.symm h2)
        omega
    · rw [if_neg h1]
      by_cases h2 : r = i
      · rw [if_pos h2]
        have := h.inj j s hj hs (Ne.symm h1)
        omega
      · rw [if_neg h2]; exact h.dis j i hj hi
  · rw [pvt_col] at hj hk
    rw [key, key]
    by_cases h1 : s = j
    · rw [if_pos h1, if_neg (by omega)]
      exact (h.dis k r hk hr).symm
    · rw [if_neg h1]
      by_cases h2 : s = k
      · rw [if_pos h2]; exact h.dis j r hj hr
      · rw [if_neg h2]; exact h.inj j k hj hk hjk
  · rcases h.all v hvW with ⟨i, hi, he⟩ | ⟨j, hj, he⟩
    · by_cases hir : r = i
      · subst hir
        refine .inr ⟨s, by rw [pvt_col]; exact hs, ?_⟩
        show (T.col.set s (T.bas.getD r 0)).getD s 0 = _
        rw [set_getDI hs, if_pos rfl, hv.basv r hr, he]
      · exact .inl ⟨i, hi, by rw [getD_set' (by omega), if_neg hir]; exact he⟩
    · by_cases hjs : s = j
      · subst hjs
        exact .inl ⟨r, hr, by rw [getD_set' (by omega), if_pos rfl, he]; rfl⟩
      · refine .inr ⟨j, by rw [pvt_col]; exact hj, ?_⟩
        show (T.col.set s (T.bas.getD r 0)).getD j 0 = _
        rw [set_getDI hs, if_neg hjs]; exact he
  · rw [pvt_col] at hj
    show (T.col.set s (T.bas.getD r 0)).getD j 0 < _
    rw [set_getDI hs]
    split
    · rw [hv.basv r hr]; have := h.bas r hr; omega
    · exact h.col j hj
  · rw [getD_set' (by omega)]
    split
    · omega
    · exact h.bas i hi
def en (g : Nat) (T : Tv) : Int := entS (T.rows.getD g []) T.col T.col.length
def lv (g : Nat) (T : Tv) : Int := levS T (en g T).toNat T.bas.length
def stop (g : Nat) (T : Tv) : Prop := en g T < 0 ∨ lv g T < 0
theorem en_bd (g : Nat) (T : Tv) : -1 ≤ en g T ∧ en g T < T.col.length := entS_bd _ _ _
theorem lv_bd (g : Nat) (T : Tv) : -1 ≤ lv g T ∧ lv g T < T.bas.length := levS_bd _ _ _
theorem Good.step (h : Good A V M m q W T bs) (hS : Sys A V M q) {g : Nat} (hg : m ≤ g) (hgT : g < T.rows.length) (hn : ¬ stop g T) :
    Step A m g q (fun v => v < W) bs (lv g T).toNat (T.col.getD (en g T).toNat 0).toNat := by
  have b1 := en_bd g T
  have b2 := lv_bd g T
  have he0 : 0 ≤ en g T := by unfold stop at hn; omega
  have hl0 : 0 ≤ lv g T := by unfold stop at hn; omega
  have eh := entS_hit (show 0 ≤ entS (T.rows.getD g []) T.col T.col.length from he0)
  have lh := levS_hit (show 0 ≤ levS T (en g T).toNat T.bas.length from hl0)
  obtain ⟨e, he⟩ : ∃ e : Nat, en g T = e := ⟨(en g T).toNat, by omega⟩
  obtain ⟨l, hl⟩ : ∃ l : Nat, lv g T = l := ⟨(lv g T).toNat, by omega⟩
  rw [show entS (T.rows.getD g []) T.col T.col.length = en g T from rfl, he] at eh
  rw [show levS T (en g T).toNat T.bas.length = lv g T from rfl, hl, he] at lh
  rw [hl, he]
  simp only [Int.toNat_natCast] at eh lh ⊢
  rw [h.view.basl] at b2
  have heT : e < T.col.length := by omega
  have hlm : l < m := by omega
  have hV := h.view
  have hrm := hV.rm
  have hrM := hV.rM
  have hce := hV.colv e
  have hcW := h.cov.col e heT
  refine ⟨hlm, by omega, ?_, fun v hv hvW => ?_, ?_, fun i hi hp => ?_, fun i hi hp he2 => ?_⟩
  · rw [← hV.num g hgT e heT]; exact eh.1
  · rcases h.cov.all v hvW with ⟨i, hi, hb⟩ | ⟨j, hj, hb⟩
    · rw [← hb, tt_other hV.bas.len (by omega) (by omega) (by omega)]; exact Int.le_refl _
    · have h1 := hV.num g hgT j hj
      rw [hb, Int.toNat_natCast] at h1
      rw [← h1]
      refine Classical.byContradiction fun h2 => ?_
      have := eh.2 j hj (by show T.at g j < 0; omega)
      omega
  · rw [← hV.num l (by omega) e heT]; exact lh.1
  · rw [← hV.num i (by omega) e heT, ← hV.num l (by omega) e heT, ← hV.rhs i (by omega), ← hV.rhs l (by omega)]
    rw [← hV.num i (by omega) e heT] at hp
    exact (lh.2 i (by rw [hV.basl]; exact hi) hp).1
  · rw [← hV.num i (by omega) e heT, ← hV.num l (by omega) e heT, ← hV.rhs i (by omega), ← hV.rhs l (by omega)] at he2
    rw [← hV.num i (by omega) e heT] at hp
    have := (lh.2 i (by rw [hV.basl]; exact hi) hp).2 he2
    rw [hV.basv l hlm, hV.basv i hi] at this
    omega
theorem Good.pvt (h : Good A V M m q W T bs) (hS : Sys A V M q) {g : Nat} (hg : m ≤ g) (hgT : g < T.rows.length) (hn : ¬ stop g T) :
    Good A V M m q W (pvt T (lv g T).toNat (en g T).toNat) (bs.set (lv g T).toNat (T.col.getD (en g T).toNat 0).toNat) := by
  have st := h.step hS hg hgT hn
  have b1 := en_bd g T
  have b2 := lv_bd g T
  have he0 : 0 ≤ en g T := by unfold stop at hn; omega
  have hl0 : 0 ≤ lv g T := by unfold stop at hn; omega
  rw [h.view.basl] at b2
  have hV := h.view
  have hrm := hV.rm
  have hrM := hV.rM
  have hp : T.at (lv g T).toNat (en g T).toNat ≠ 0 := by
    rw [hV.num _ (by omega) _ (by omega)]
    have := st.lev; omega
  refine ⟨hV.pvt hS.hq hS.hA (by omega) (by omega) hp, h.cov.pvt hV (by omega) (by omega), st.feas hV.bas (by omega) hS.hq h.feas, ?_, by rw [pvt_rows]; exact h.few, by rw [pvt_col]; exact h.thin⟩
  rw [pvt_rows]; exact h.hl
def nx (g : Nat) (x : Tv × List Nat) : Tv × List Nat := (pvt x.1 (lv g x.1).toNat (en g x.1).toNat, x.2.set (lv g x.1).toNat (x.1.col.getD (en g x.1).toNat 0).toNat)
def it (g : Nat) : Nat → Tv × List Nat → Tv × List Nat
  | 0, x => x
  | n + 1, x => it g n (nx g x)
theorem it_succ (g : Nat) : ∀ n x, it g (n + 1) x = nx g (it g n x)
  | 0, _ => rfl
  | n + 1, x => by
    show it g (n + 1) (nx g x) = _
    rw [it_succ g n (nx g x)]; rfl
theorem least {p : Nat → Prop} (h : ∃ k, p k) : ∃ k, p k ∧ ∀ j, j < k → ¬ p j := by
  obtain ⟨k, hk⟩ := h
  induction k using Nat.strongRecOn with
  | ind k ih =>
    by_cases h1 : ∃ j, j < k ∧ p j
    · obtain ⟨j, hj, hp⟩ := h1; exact ih j hj hp
    · exact ⟨k, hk, fun j hj hp => h1 ⟨j, hj, hp⟩⟩
theorem nx_rows (g : Nat) (x : Tv × List Nat) : (nx g x).1.rows.length = x.1.rows.length := pvt_rows _ _ _
def EndP (A : Nat → Vec) (m g W : Nat) (T : Tv) (bs : List Nat) (s : Int) : Prop :=
  (s = -1 ∧ ∀ v, v < W → 0 ≤ tt A bs g (A v)) ∨ ∃ e : Nat, s = e ∧ e < T.col.length ∧ tt A bs g (A (T.col.getD e 0).toNat) < 0 ∧ ∀ i, i < m → tt A bs i (A (T.col.getD e 0).toNat) ≤ 0
theorem Good.endp (h : Good A V M m q W T bs) {g : Nat} (hg : m ≤ g) (hgT : g < T.rows.length) (hs : stop g T) : ∃ s, EndP A m g W T bs s ∧ ((en g T < 0 ∧ s = -1) ∨ (0 ≤ en g T ∧ lv g T < 0 ∧ s = en g T)) := by
  have hV := h.view
  have hrM := hV.rM
  have b1 := en_bd g T
  by_cases he : en g T < 0
  · refine ⟨-1, .inl ⟨rfl, fun v hv => ?_⟩, .inl ⟨he, rfl⟩⟩
    rcases h.cov.all v hv with ⟨i, hi, hb⟩ | ⟨j, hj, hb⟩
    · rw [← hb, tt_other hV.bas.len (by omega) (by omega) (by omega)]; exact Int.le_refl _
    · have h1 := hV.num g hgT j hj
      rw [hb, Int.toNat_natCast] at h1
      rw [← h1]; exact entS_none he j hj
  · have hl : lv g T < 0 := by unfold stop at hs; omega
    obtain ⟨e, hee⟩ : ∃ e : Nat, en g T = e := ⟨(en g T).toNat, by omega⟩
    have eh := entS_hit (show 0 ≤ entS (T.rows.getD g []) T.col T.col.length by show 0 ≤ en g T; omega)
    rw [show entS (T.rows.getD g []) T.col T.col.length = en g T from rfl, hee] at eh
    simp only [Int.toNat_natCast] at eh
    refine ⟨en g T, .inr ⟨e, hee, by omega, ?_, fun i hi => ?_⟩, .inr ⟨by omega, hl, rfl⟩⟩
    · rw [← hV.num g hgT e (by omega)]; exact eh.1
    · rw [← hV.num i (by have := hV.rm; omega) e (by omega)]
      have := levS_none hl i (by rw [hV.basl]; exact hi)
      rw [hee] at this; simpa using this
theorem it_ok (hS : Sys A V M q) {g : Nat} (hg : m ≤ g) : ∀ (n : Nat) (x : Tv × List Nat), Good A V M m q W x.1 x.2 → g < x.1.rows.length → (∀ j, j < n → ¬ stop g (it g j x).1) → Good A V M m q W (it g n x).1 (it g n x).2 ∧ (it g n x).1.rows.length = x.1.rows.length ∧ ∀ j, m ≤ j → (it g n x).2.getD j 0 = x.2.getD j 0
  | 0, x, h, _, _ => ⟨h, rfl, fun _ _ => rfl⟩
  | n + 1, x, h, hgT, hn => by
    have h0 := hn 0 (by omega)
    have h1 := h.pvt hS hg hgT h0
    obtain ⟨a1, a2, a3⟩ := it_ok hS hg n (nx g x) h1 (by rw [nx_rows]; exact hgT) (fun j hj => hn (j + 1) (by omega))
    refine ⟨a1, by rw [← nx_rows g x]; exact a2, fun j hj => ?_⟩
    show (it g n (nx g x)).2.getD j 0 = _
    rw [a3 j hj]
    show (x.2.set _ _).getD j 0 = _
    have b2 := lv_bd g x.1
    have hV := h.view
    have hlen := hV.bas.len
    have hrm := hV.rm
    have hrM := hV.rM
    rw [hV.basl] at b2
    have hl0 : 0 ≤ lv g x.1 := by
      have h0' : ¬ stop g x.1 := h0
      unfold stop at h0'; omega
    rw [getD_set' (by omega), if_neg (by omega)]
theorem it_run {g : Nat} (hS : Sys A V M q) (hg : m ≤ g) {s : Int} : ∀ (n : Nat) (x : Tv × List Nat), Good A V M m q W x.1 x.2 → g < x.1.rows.length → (∀ j, j < n → ¬ stop g (it g j x).1) →
    ((en g (it g n x).1 < 0 ∧ s = -1) ∨ (0 ≤ en g (it g n x).1 ∧ lv g (it g n x).1 < 0 ∧ s = en g (it g n x).1)) → RunOk g (it g n x).1 s n x.1
  | 0, x, h, _, _, hs => ⟨h.view.gd hS h.hl h.few h.thin, rfl, hs⟩
  | n + 1, x, h, hgT, hn, hs => by
    have h0 : ¬ stop g x.1 := hn 0 (by omega)
    have h1 := h.pvt hS hg hgT h0
    refine ⟨h.view.gd hS h.hl h.few h.thin, ?_, ?_, it_run hS hg n (nx g x) h1 (by rw [nx_rows]; exact hgT) (fun j hj => hn (j + 1) (by omega)) hs⟩
    · have : 0 ≤ en g x.1 := by unfold stop at h0; omega
      exact this
    · have : 0 ≤ lv g x.1 := by unfold stop at h0; omega
      exact this
theorem Good.ends (h : Good A V M m q W T bs) (hS : Sys A V M q) {g : Nat} (hg : m ≤ g) (hgT : g < T.rows.length) (hN : ∀ d ∈ bs, d < W + M + 2) :
    ∃ k T' s bs', RunOk g T' s k T ∧ Good A V M m q W T' bs' ∧ EndP A m g W T' bs' s ∧ T'.rows.length = T.rows.length ∧ ∀ j, m ≤ j → bs'.getD j 0 = bs.getD j 0 := by
  have hex : ∃ k, stop g (it g k (T, bs)).1 := by
    refine Classical.byContradiction fun hno => ?_
    have hn : ∀ k, ¬ stop g (it g k (T, bs)).1 := fun k hk => hno ⟨k, hk⟩
    have hG := fun k => it_ok (W := W) hS hg k (T, bs) h hgT (fun j _ => hn j)
    have R : Run A V M m g q (fun v => v < W) (W + M + 2) (fun k => (it g k (T, bs)).2) (fun k => (lv g (it g k (T, bs)).1).toNat) (fun k => ((it g k (T, bs)).1.col.getD (en g (it g k (T, bs)).1).toNat 0).toNat) :=
      ⟨h.view.bas, h.feas, hS.hq, hS.hA, hg, by have := h.view.rM; omega, fun k => (hG k).1.step hS hg (by rw [(hG k).2.1]; exact hgT) (hn k), fun k => by show (it g (k + 1) (T, bs)).2 = _; rw [it_succ]; rfl, hN, fun v hv => by omega⟩
    exact R.no
  obtain ⟨k, hk, hkl⟩ := least hex
  obtain ⟨a1, a2, a3⟩ := it_ok (W := W) hS hg k (T, bs) h hgT hkl
  obtain ⟨s, hs1, hs2⟩ := a1.endp hg (by rw [a2]; exact hgT) hk
  exact ⟨k, _, s, _, it_run hS hg k (T, bs) h hgT hkl hs2, a1, hs1, a2, a3⟩
end
end Go.Proofs.YtdhmbgogmoaofaaGreat
namespace Go.Proofs.YtdhmbgogmoaofaaGreat
open Go.Own Go.Limbs Go.Det
def colA (n : Nat) (rs : List Rw) (c : List Int) (v : Nat) : Vec := fun j =>
  if v < n then (if j < rs.length then (rs.getD j rw0).cs.getD v 0 else if j = rs.length then -(c.getD v 0) else 0)
  else if v < n + rs.length then (if j = v - n then 1 else 0)
  else if v = n + rs.length then (if j < rs.length then -1 else if j = rs.length + 1 then 1 else 0)
  else if v = n + rs.length + 1 then (if j = rs.length then 1 else 0)
  else if v = n + rs.length + 2 then (if j = rs.length + 1 then 1 else 0) else 0
def rhsQ (rs : List Rw) : Vec := fun j => if j < rs.length then (rs.getD j rw0).b else 0
def bs0 (n m : Nat) : List Nat := (List.range m).map (fun i => n + i) ++ [n + m + 1, n + m + 2]
def Vok (M : Nat) (x : Vec) : Prop := ∀ j, M ≤ j → x j = 0
theorem bs0_len (n m : Nat) : (bs0 n m).length = m + 2 := by simp [bs0]
theorem bs0_lo {n m i : Nat} (h : i < m) : (bs0 n m).getD i 0 = n + i := by
  simp [bs0, List.getD_eq_getElem?_getD, List.getElem?_append_left, h]
theorem bs0_z (n m : Nat) : (bs0 n m).getD m 0 = n + m + 1 := by simp [bs0, List.getD_eq_getElem?_getD]
theorem bs0_w (n m : Nat) : (bs0 n m).getD (m + 1) 0 = n + m + 2 := by simp [bs0, List.getD_eq_getElem?_getD]
section
variable {n : Nat} {rs : List Rw} {c : List Int}
theorem colA_low {v : Nat} (h : v < n) (j : Nat) : colA n rs c v j = if j < rs.length then (rs.getD j rw0).cs.getD v 0 else if j = rs.length then -(c.getD v 0) else 0 := by
  unfold colA; rw [if_pos h]
theorem colA_slack {i : Nat} (h : i < rs.length) : colA n rs c (n + i) = unit i := by
  funext j
  unfold colA Go.Det.unit
  rw [if_neg (by omega), if_pos (by omega)]
  congr 1
  exact propext ⟨fun h => by omega, fun h => by omega⟩
theorem colA_art : colA n rs c (n + rs.length) = fun j => if j < rs.length then -1 else if j = rs.length + 1 then 1 else 0 := by
  funext j
  unfold colA
  rw [if_neg (by omega), if_neg (by omega), if_pos rfl]
theorem colA_z : colA n rs c (n + rs.length + 1) = unit rs.length := by
  funext j
  unfold colA Go.Det.unit
  rw [if_neg (by omega), if_neg (by omega), if_neg (by omega), if_pos rfl]
theorem colA_w : colA n rs c (n + rs.length + 2) = unit (rs.length + 1) := by
  funext j
  unfold colA Go.Det.unit
  rw [if_neg (by omega), if_neg (by omega), if_neg (by omega), if_neg (by omega), if_pos rfl]
theorem bs0_unit {i : Nat} (h : i < rs.length + 2) : colA n rs c ((bs0 n rs.length).getD i 0) = unit i := by
  by_cases h1 : i < rs.length
  · rw [bs0_lo h1, colA_slack h1]
  · by_cases h2 : i = rs.length
    · subst h2; rw [bs0_z, colA_z]
    · have : i = rs.length + 1 := by omega
      subst this; rw [bs0_w, colA_w]
theorem colA_V (v : Nat) : Vok (rs.length + 2) (colA n rs c v) := fun j hj => by
  unfold colA
  split
  · rw [if_neg (by omega), if_neg (by omega)]
  · split
    · rw [if_neg (by omega)]
    · split
      · rw [if_neg (by omega), if_neg (by omega)]
      · split
        · rw [if_neg (by omega)]
        · split
          · rw [if_neg (by omega)]
          · rfl
theorem rhsQ_V : Vok (rs.length + 2) (rhsQ rs) := fun j hj => by unfold rhsQ; rw [if_neg (by omega)]
theorem bs0_bas : Bas (colA n rs c) (Vok (rs.length + 2)) (rs.length + 2) (bs0 n rs.length) ∧ dD (colA n rs c) (bs0 n rs.length) = 1 :=
  Bas.start (bs0_len n rs.length) (fun i hi => bs0_unit hi) (fun x hx => hx)
theorem bs0_tt {i : Nat} (hi : i < rs.length + 2) {x : Vec} (hx : Vok (rs.length + 2) x) : tt (colA n rs c) (bs0 n rs.length) i x = x i := by
  unfold tt
  rw [bs0_bas.2, dT_unit (bs0_len n rs.length) (fun i hi => bs0_unit hi) hx hi]
  show 1 * _ = _
  omega
structure LpOk (n : Nat) (rs : List Rw) (c : List Int) : Prop where
  nn : n ≤ 16
  mm : rs.length ≤ 64
  cl : c.length ≤ n
  cb : ∀ i, (c.getD i 0).natAbs ≤ 1048576
  rl : ∀ r ∈ rs, r.cs.length ≤ n
  rb : ∀ r ∈ rs, ∀ i, (r.cs.getD i 0).natAbs ≤ 1048576
  bb : ∀ r ∈ rs, r.b.natAbs ≤ 4503599627370496
theorem rs_mem {j : Nat} (h : j < rs.length) : rs.getD j rw0 ∈ rs := getD_mem h
theorem colA_bd (h : LpOk n rs c) (v j : Nat) : (colA n rs c v j).natAbs ≤ 1048576 := by
  unfold colA
  split
  · split
    · rename_i h1 h2; exact h.rb _ (rs_mem h2) v
    · split
      · rw [Int.natAbs_neg]; exact h.cb v
      · decide
  · repeat' split
    all_goals decide
theorem fact_mono : ∀ {a b : Nat}, a ≤ b → fact a ≤ fact b := fun {a b} h => by
  induction b with
  | zero => rw [show a = 0 by omega]; exact Nat.le_refl _
  | succ b ih =>
    rcases Nat.lt_or_ge a (b + 1) with h1 | h1
    · refine Nat.le_trans (ih (by omega)) ?_
      show fact b ≤ (b + 1) * fact b
      exact Nat.le_mul_of_pos_left _ (by omega)
    · rw [show a = b + 1 by omega]; exact Nat.le_refl _
theorem big_bd {M : Nat} (h : M ≤ 66) : fact M * 1048576 ^ M ≤ fact 66 * 1048576 ^ 66 := Nat.mul_le_mul (fact_mono h) (Nat.pow_le_pow_right (by decide) h)
theorem dt_A {l : List Vec} (h : LpOk n rs c) (hl : l.length = rs.length + 2) (hA : ∀ x ∈ l, ∀ i, (x i).natAbs ≤ 1048576) : (dt l).natAbs ≤ fact 66 * 1048576 ^ 66 := by
  have h1 := dt_bd l hA
  rw [hl] at h1
  exact Nat.le_trans h1 (big_bd (by have := h.mm; omega))
theorem mem_set_or {l : List Vec} {i : Nat} {y x : Vec} (h : x ∈ l.set i y) : x ∈ l ∨ x = y := List.mem_or_eq_of_mem_set h
theorem cols_bd (h : LpOk n rs c) {bs : List Nat} {x : Vec} (hx : x ∈ cols (colA n rs c) bs) (i : Nat) : (x i).natAbs ≤ 1048576 := by
  obtain ⟨v, _, rfl⟩ := List.mem_map.1 hx
  exact colA_bd h v i
theorem sm_natAbs {f : Nat → Int} {K : Nat} : ∀ {M : Nat}, (∀ k, k < M → (f k).natAbs ≤ K) → (sm f M).natAbs ≤ M * K
  | 0, _ => by simp [sm]
  | M + 1, h => by
    simp only [sm]
    have h1 := sm_natAbs (M := M) fun k hk => h k (by omega)
    have h2 := h M (by omega)
    rw [Nat.add_mul, Nat.one_mul]
    omega
theorem lp_sys (h : LpOk n rs c) : Sys (colA n rs c) (Vok (rs.length + 2)) (rs.length + 2) (rhsQ rs) := by
  refine ⟨rhsQ_V, colA_V, fun bs i x hl hi hx hx2 => ?_, fun bs hl => ?_⟩
  · rcases hx2 with rfl | ⟨v, rfl⟩
    · have e : rhsQ rs = comb (rhsQ rs) unit (rs.length + 2) := by
        funext j
        unfold comb
        by_cases hj : j < rs.length + 2
        · rw [sm_one hj fun k _ hk => by simp [Go.Det.unit, Ne.symm hk]]; simp [Go.Det.unit]
        · rw [rhsQ_V j (by omega), sm_zero fun k hk => by rw [show Go.Det.unit k j = 0 from if_neg (by omega), Int.mul_zero]]
      have hlc : i < (cols (colA n rs c) bs).length := by rw [cols_len]; omega
      have e2 : dT (colA n rs c) bs i (rhsQ rs) = sm (fun k => rhsQ rs k * dt ((cols (colA n rs c) bs).set i (unit k))) (rs.length + 2) := by
        unfold dT
        conv => lhs; rw [e]
        exact dt_set_comb hlc _ _ _
      rw [e2]
      refine Nat.lt_of_le_of_lt (sm_natAbs (K := 4503599627370496 * (fact 66 * 1048576 ^ 66)) fun k _ => ?_) ?_
      · rw [Int.natAbs_mul]
        refine Nat.mul_le_mul ?_ (dt_A h (by rw [List.length_set, cols_len]; exact hl) fun x hx i => ?_)
        · unfold rhsQ
          split
          · rename_i h2; exact h.bb _ (rs_mem h2)
          · decide
        · rcases mem_set_or hx with h3 | h3
          · exact cols_bd h h3 i
          · rw [h3]; unfold Go.Det.unit; split <;> decide
      · refine Nat.lt_of_le_of_lt (Nat.mul_le_mul_right _ (show rs.length + 2 ≤ 66 by have := h.mm; omega)) ?_
        decide
    · refine Nat.lt_of_le_of_lt (dt_A h (by rw [List.length_set, cols_len]; exact hl) fun x hx i => ?_) ?_
      · rcases mem_set_or hx with h3 | h3
        · exact cols_bd h h3 i
        · rw [h3]; exact colA_bd h v i
      · decide
  · refine Nat.lt_of_le_of_lt (dt_A h (by rw [cols_len]; exact hl) fun x hx i => cols_bd h hx i) ?_
    decide
structure Beg (n : Nat) (rs : List Rw) (c : List Int) (T : Tv) : Prop where
  rows : T.rows = (rs.map fun r => lnOf n r.cs r.b) ++ [lnOf n (c.map fun x => -x) 0]
  bas : T.bas = rng n rs.length
  col : T.col = rng 0 n
  den : T.den = 1
  hl : T.hl.length = T.rows.length
theorem lnOf_len (n : Nat) (cs : List Int) (b : Int) : (lnOf n cs b).length = n + 1 := by simp [lnOf]
theorem lnOf_at {n : Nat} {cs : List Int} {b : Int} {j : Nat} (h : j < n) : (lnOf n cs b).getD j 0 = cs.getD j 0 := by
  simp [lnOf, List.getD_eq_getElem?_getD, List.getElem?_append_left, h]
theorem lnOf_last (n : Nat) (cs : List Int) (b : Int) : (lnOf n cs b).getD n 0 = b := by simp [lnOf, List.getD_eq_getElem?_getD]
theorem rng_at {a n j : Nat} (h : j < n) : (rng a n).getD j 0 = ((a + j : Nat) : Int) := by simp [rng, List.getD_eq_getElem?_getD, h]
theorem rng_nn (a n j : Nat) : 0 ≤ (rng a n).getD j 0 := by
  rcases Nat.lt_or_ge j n with h | h
  · rw [rng_at h]; omega
  · rw [getD_ge (by rw [rng_len]; exact h)]; exact Int.le_refl _
theorem Beg.len {T : Tv} (h : Beg n rs c T) : T.rows.length = rs.length + 1 := by rw [h.rows]; simp
theorem Beg.lo {T : Tv} (h : Beg n rs c T) {i : Nat} (hi : i < rs.length) : T.rows.getD i [] = lnOf n (rs.getD i rw0).cs (rs.getD i rw0).b := by
  rw [h.rows]
  simp [List.getD_eq_getElem?_getD, List.getElem?_append_left, hi]
theorem Beg.hi {T : Tv} (h : Beg n rs c T) : T.rows.getD rs.length [] = lnOf n (c.map fun x => -x) 0 := by
  rw [h.rows]
  simp [List.getD_eq_getElem?_getD]
theorem neg_getD (c : List Int) (j : Nat) : (c.map fun x => -x).getD j 0 = -(c.getD j 0) := by
  simp only [List.getD_eq_getElem?_getD, List.getElem?_map]
  cases c[j]? <;> simp
theorem Beg.view {T : Tv} (h : Beg n rs c T) : View (colA n rs c) (Vok (rs.length + 2)) (rs.length + 2) rs.length (rhsQ rs) T (bs0 n rs.length) := by
  have hl := h.len
  have hcl : T.col.length = n := by rw [h.col, rng_len]
  refine ⟨bs0_bas.1, ?_, fun i hi j hj => ?_, fun i hi => ?_, by rw [h.bas, rng_len], fun i hi => ?_, fun j => by rw [h.col]; exact rng_nn _ _ _, fun i hi => ?_, by omega, by omega⟩
  · rw [h.den]; unfold Go.Det.den; rw [bs0_bas.2]; rfl
  · rw [hcl] at hj
    rw [bs0_tt (by omega) (colA_V _), h.col, rng_at hj, Nat.zero_add, Int.toNat_natCast, colA_low hj]
    unfold Tv.at
    by_cases h1 : i < rs.length
    · rw [if_pos h1, h.lo h1, lnOf_at hj]
    · rw [if_neg h1, if_pos (by omega), show i = rs.length by omega, h.hi, lnOf_at hj, neg_getD]
  · rw [bs0_tt (by omega) rhsQ_V]
    unfold Tv.at rhsQ
    rw [hcl]
    by_cases h1 : i < rs.length
    · rw [if_pos h1, h.lo h1, lnOf_last]
    · rw [if_neg h1, show i = rs.length by omega, h.hi, lnOf_last]
  · rw [h.bas, rng_at hi, bs0_lo hi]
  · by_cases h1 : i < rs.length
    · rw [h.lo h1, lnOf_len, hcl]
    · rw [show i = rs.length by omega, h.hi, lnOf_len, hcl]
theorem insL_at {m q k : Nat} {l : List Int} (hq : l.length = q + 1) {j : Nat} : (insL m q k l).getD j 0 = if j < q then l.getD j 0 else if j = q then insX m k else l.getD (j - 1) 0 := by
  unfold insL
  simp only [List.getD_eq_getElem?_getD]
  by_cases h1 : j < q
  · rw [if_pos h1, List.getElem?_append_left (by rw [List.length_take]; omega), List.getElem?_take, if_pos h1]
  · rw [if_neg h1, List.getElem?_append_right (by rw [List.length_take]; omega), List.length_take, Nat.min_eq_left (by omega)]
    by_cases h2 : j = q
    · rw [if_pos h2, h2, Nat.sub_self]; rfl
    · rw [if_neg h2]
      obtain ⟨d, rfl⟩ : ∃ d, j = q + 1 + d := ⟨j - (q + 1), by omega⟩
      rw [show q + 1 + d - q = d + 1 by omega, List.getElem?_cons_succ, List.getElem?_drop, show q + 1 + d - 1 = q + d by omega]
theorem Beg.ins {T : Tv} (h : Beg n rs c T) : View (colA n rs c) (Vok (rs.length + 2)) (rs.length + 2) rs.length (rhsQ rs) (insT T ((n + rs.length : Nat) : Int)) (bs0 n rs.length) := by
  have hl := h.len
  have hcl : T.col.length = n := by rw [h.col, rng_len]
  have hbl : T.bas.length = rs.length := by rw [h.bas, rng_len]
  have hrl : (insT T ((n + rs.length : Nat) : Int)).rows.length = rs.length + 2 := by show (insP _ _ _ _).length = _; rw [insP_len]; simp [hl]
  have hil : (insT T ((n + rs.length : Nat) : Int)).col.length = n + 1 := by show (T.col ++ [_]).length = _; simp [hcl]
  have hr0 : ∀ i, i < rs.length + 2 → ((T.rows ++ [List.replicate (T.col.length + 1) (0 : Int)]).getD i []).length = n + 1 ∧ (T.rows ++ [List.replicate (T.col.length + 1) (0 : Int)]).getD i [] = if i < rs.length + 1 then T.rows.getD i [] else List.replicate (n + 1) 0 := fun i hi => by
    have e : (T.rows ++ [List.replicate (T.col.length + 1) (0 : Int)]).getD i [] = if i < rs.length + 1 then T.rows.getD i [] else List.replicate (n + 1) 0 := by
      by_cases h1 : i < rs.length + 1
      · rw [if_pos h1, List.getD_eq_getElem?_getD, List.getElem?_append_left (by omega), ← List.getD_eq_getElem?_getD]
      · rw [if_neg h1, show i = T.rows.length by omega]; simp [List.getD_eq_getElem?_getD, hcl]
    refine ⟨?_, e⟩
    rw [e]
    split
    · rw [h.view.row i (by omega), hcl]
    · simp
  have hrow : ∀ i, i < rs.length + 2 → (insT T ((n + rs.length : Nat) : Int)).rows.getD i [] = insL rs.length n i ((T.rows ++ [List.replicate (T.col.length + 1) (0 : Int)]).getD i []) := fun i hi => by
    show (insP _ _ _ _).getD i [] = _
    unfold insP
    rw [range_getD _ _ _ (by simp [hl]; omega), if_pos (by omega), hbl, hcl]
  have hcol : ∀ j, (insT T ((n + rs.length : Nat) : Int)).col.getD j 0 = if j < n then (j : Int) else if j = n then ((n + rs.length : Nat) : Int) else 0 := fun j => by
    show (T.col ++ [_]).getD j 0 = _
    by_cases h1 : j < n
    · rw [if_pos h1, List.getD_eq_getElem?_getD, List.getElem?_append_left (by omega), ← List.getD_eq_getElem?_getD, h.col, rng_at h1, Nat.zero_add]
    · rw [if_neg h1]
      by_cases h2 : j = n
      · rw [if_pos h2, h2, ← hcl]; simp [List.getD_eq_getElem?_getD]
      · rw [if_neg h2, getD_ge (by simp [hcl]; omega)]
  have hat : ∀ i, i < rs.length + 2 → ∀ j, (insT T ((n + rs.length : Nat) : Int)).at i j = if j < n then (if i < rs.length + 1 then T.at i j else 0) else if j = n then insX rs.length i else if j = n + 1 then (if i < rs.length + 1 then T.at i n else 0) else 0 := fun i hi j => by
    unfold Tv.at
    rw [hrow i hi, insL_at (hr0 i hi).1, (hr0 i hi).2]
    by_cases h1 : j < n
    · rw [if_pos h1, if_pos h1]
      split
      · rfl
      · simp [List.getD_eq_getElem?_getD, List.getElem?_replicate]; split <;> rfl
    · rw [if_neg h1, if_neg h1]
      by_cases h2 : j = n
      · rw [if_pos h2, if_pos h2]
      · rw [if_neg h2, if_neg h2]
        by_cases h3 : j = n + 1
        · rw [if_pos h3, h3, Nat.add_sub_cancel]
          split
          · rfl
          · simp [List.getD_eq_getElem?_getD, List.getElem?_replicate]
        · rw [if_neg h3]
          split
          · rw [getD_ge (by rw [h.view.row i (by omega), hcl]; omega)]
          · rw [getD_ge (by simp; omega)]
  have hV := h.view
  refine ⟨bs0_bas.1, ?_, fun i hi j hj => ?_, fun i hi => ?_, hbl, fun i hi => ?_, fun j => ?_, fun i hi => ?_, by omega, by omega⟩
  · show T.den = _; exact hV.den
  · rw [hrl] at hi
    rw [hil] at hj
    rw [bs0_tt hi (colA_V _), hat i hi j, hcol j]
    by_cases h1 : j < n
    · rw [if_pos h1, if_pos h1, Int.toNat_natCast]
      by_cases h2 : i < rs.length + 1
      · rw [if_pos h2]
        have := hV.num i (by omega) j (by omega)
        rw [bs0_tt (by omega) (colA_V _), h.col, rng_at h1, Nat.zero_add, Int.toNat_natCast] at this
        exact this
      · rw [if_neg h2, colA_low h1, if_neg (by omega), if_neg (by omega)]
    · rw [if_neg h1, if_pos (by omega), if_neg h1, if_pos (by omega), Int.toNat_natCast, colA_art]
      rfl
  · rw [hrl] at hi
    rw [hil, bs0_tt hi rhsQ_V, hat i hi (n + 1), if_neg (by omega), if_neg (by omega), if_pos rfl]
    by_cases h2 : i < rs.length + 1
    · rw [if_pos h2]
      have := hV.rhs i (by omega)
      rw [bs0_tt (by omega) rhsQ_V, hcl] at this
      exact this
    · rw [if_neg h2]; unfold rhsQ; rw [if_neg (by omega)]
  · show T.bas.getD i 0 = _; exact hV.basv i hi
  · rw [hcol j]
    split
    · omega
    · split <;> omega
  · rw [hrl] at hi
    rw [hrow i hi, insL_len (by rw [(hr0 i hi).1]; omega), (hr0 i hi).1, hil]
end
end Go.Proofs.YtdhmbgogmoaofaaGreat
namespace Go.Proofs.YtdhmbgogmoaofaaGreat
open Go.Own Go.Limbs Go.Det
theorem wrS_none {T : Tv} : ∀ {i : Nat}, wrS T i < 0 → ∀ k, k < i → 0 ≤ T.at k T.col.length
  | 0, _, k, hk => by omega
  | i + 1, h, k, hk => by
    simp only [wrS] at h
    by_cases hc : T.at i T.col.length < 0 ∧ (wrS T i < 0 ∨ T.at i T.col.length + -(T.at (wrS T i).toNat T.col.length) < 0)
    · rw [if_pos hc] at h; omega
    · rw [if_neg hc] at h
      by_cases hki : k = i
      · subst hki
        by_cases h5 : T.at k T.col.length < 0
        · exact absurd ⟨h5, .inl h⟩ hc
        · omega
      · exact wrS_none h k (by omega)
theorem wrS_hit {T : Tv} : ∀ {i : Nat}, 0 ≤ wrS T i → T.at (wrS T i).toNat T.col.length < 0 ∧ ∀ k, k < i → T.at (wrS T i).toNat T.col.length ≤ T.at k T.col.length
  | 0, h => by simp [wrS] at h
  | i + 1, h => by
    simp only [wrS] at h ⊢
    by_cases hc : T.at i T.col.length < 0 ∧ (wrS T i < 0 ∨ T.at i T.col.length + -(T.at (wrS T i).toNat T.col.length) < 0)
    · rw [if_pos hc, Int.toNat_natCast]
      refine ⟨hc.1, fun k hk => ?_⟩
      by_cases hki : k = i
      · subst hki; exact Int.le_refl _
      · by_cases h2 : wrS T i < 0
        · have := wrS_none h2 k (by omega); omega
        · have h3 := (wrS_hit (T := T) (i := i) (by omega)).2 k (by omega)
          rcases hc.2 with h4 | h4 <;> omega
    · rw [if_neg hc] at h ⊢
      have ih := wrS_hit h
      refine ⟨ih.1, fun k hk => ?_⟩
      by_cases hki : k = i
      · subst hki
        by_cases h5 : T.at k T.col.length < 0
        · have : ¬ (T.at k T.col.length + -(T.at (wrS T k).toNat T.col.length) < 0) := fun h6 => hc ⟨h5, .inr h6⟩
          omega
        · omega
      · exact ih.2 k (by omega)
theorem idxI_get {α : Type} {p : α → Bool} {xs : List α} (z : α) (h : 0 ≤ idxI p xs) : (idxI p xs).toNat < xs.length ∧ p (xs.getD (idxI p xs).toNat z) = true := by
  unfold idxI at h ⊢
  by_cases ha : xs.any p = true
  · rw [if_pos ha, Int.toNat_natCast]
    have h1 : xs.findIdx p < xs.length := List.findIdx_lt_length_of_exists (by simpa using ha)
    refine ⟨h1, ?_⟩
    rw [List.getD_eq_getElem?_getD, List.getElem?_eq_getElem h1]
    exact List.findIdx_getElem (w := h1)
  · rw [if_neg ha] at h; omega
theorem idxI_nn {α : Type} {p : α → Bool} {xs : List α} (z : α) {k : Nat} (hk : k < xs.length) (hp : p (xs.getD k z) = true) : 0 ≤ idxI p xs := by
  unfold idxI
  rw [if_pos (List.any_eq_true.2 ⟨xs.getD k z, getD_mem hk, hp⟩)]
  omega
structure Ph (n : Nat) (rs : List Rw) (c : List Int) (W : Nat) (T : Tv) (bs : List Nat) : Prop where
  good : Good (colA n rs c) (Vok (rs.length + 2)) (rs.length + 2) rs.length (rhsQ rs) W T bs
  z : bs.getD rs.length 0 = n + rs.length + 1
  w : bs.getD (rs.length + 1) 0 = n + rs.length + 2
section
variable {n : Nat} {rs : List Rw} {c : List Int} {W : Nat} {T : Tv} {bs : List Nat}
theorem Ph.bas (h : Ph n rs c W T bs) : Bas (colA n rs c) (Vok (rs.length + 2)) (rs.length + 2) bs := h.good.view.bas
theorem Ph.small (h : Ph n rs c W T bs) (hW : n + rs.length ≤ W) : ∀ d ∈ bs, d < W + (rs.length + 2) + 2 := fun d hd => by
  obtain ⟨i, hi, rfl⟩ := List.getElem_of_mem hd
  rw [h.bas.len] at hi
  have e : bs[i] = bs.getD i 0 := by rw [List.getD_eq_getElem?_getD, List.getElem?_eq_getElem]; rfl
  rw [e]
  by_cases h1 : i < rs.length
  · have := h.good.cov.bas i h1; omega
  · by_cases h2 : i = rs.length
    · rw [h2, h.z]; omega
    · rw [show i = rs.length + 1 by omega, h.w]; omega
theorem Ph.comp (h : Ph n rs c W T bs) {x : Vec} (hx : Vok (rs.length + 2) x) (j : Nat) : Go.Det.den (colA n rs c) bs * x j = sm (fun k => tt (colA n rs c) bs k x * colA n rs c (bs.getD k 0) j) (rs.length + 2) := by
  have h1 := h.bas.cr x hx j
  unfold Go.Det.den tt
  have e : sm (fun k => (dD (colA n rs c) bs).sign * dT (colA n rs c) bs k x * colA n rs c (bs.getD k 0) j) (rs.length + 2) = (dD (colA n rs c) bs).sign * sm (fun k => dT (colA n rs c) bs k x * colA n rs c (bs.getD k 0) j) (rs.length + 2) := by
    rw [← sm_mul]
    exact sm_congr fun k _ => by grind
  rw [e, ← h1]; grind
theorem colA_art_w : colA n rs c (n + rs.length) (rs.length + 1) = 1 := by
  rw [colA_art]
  show (if rs.length + 1 < rs.length then (-1 : Int) else if rs.length + 1 = rs.length + 1 then 1 else 0) = 1
  rw [if_neg (by omega), if_pos rfl]
theorem Ph.w_eq (h : Ph n rs c W T bs) (hW : W ≤ n + rs.length + 1) {x : Vec} (hx : Vok (rs.length + 2) x) :
    Go.Det.den (colA n rs c) bs * x (rs.length + 1) = tt (colA n rs c) bs (rs.length + 1) x + sm (fun k => if bs.getD k 0 = n + rs.length then tt (colA n rs c) bs k x else 0) rs.length := by
  rw [h.comp hx]
  simp only [sm]
  rw [h.z, h.w, colA_z, colA_w]
  have e : sm (fun k => tt (colA n rs c) bs k x * colA n rs c (bs.getD k 0) (rs.length + 1)) rs.length = sm (fun k => if bs.getD k 0 = n + rs.length then tt (colA n rs c) bs k x else 0) rs.length := sm_congr fun k hk => by
    have hb := h.good.cov.bas k hk
    by_cases h1 : bs.getD k 0 = n + rs.length
    · rw [if_pos h1, h1, colA_art_w, Int.mul_one]
    · rw [if_neg h1]
      have : colA n rs c (bs.getD k 0) (rs.length + 1) = 0 := by
        by_cases h2 : bs.getD k 0 < n
        · rw [colA_low h2, if_neg (by omega), if_neg (by omega)]
        · obtain ⟨i, hi⟩ : ∃ i, bs.getD k 0 = n + i := ⟨bs.getD k 0 - n, by omega⟩
          rw [hi, colA_slack (by omega)]
          exact if_neg (by omega)
      rw [this, Int.mul_zero]
  rw [e]
  have e1 : Go.Det.unit rs.length (rs.length + 1) = 0 := if_neg (by omega)
  have e2 : Go.Det.unit (rs.length + 1) (rs.length + 1) = 1 := if_pos rfl
  rw [e1, e2]; omega
theorem sm_nonneg {f : Nat → Int} : ∀ {m : Nat}, (∀ k, k < m → 0 ≤ f k) → 0 ≤ sm f m
  | 0, _ => Int.le_refl _
  | m + 1, h => by simp only [sm]; have := sm_nonneg (m := m) fun k hk => h k (by omega); have := h m (by omega); omega
theorem sm_zero_of {f : Nat → Int} : ∀ {m : Nat}, (∀ k, k < m → 0 ≤ f k) → sm f m ≤ 0 → ∀ k, k < m → f k = 0
  | 0, _, _, k, hk => by omega
  | m + 1, h, hs, k, hk => by
    simp only [sm] at hs
    have h1 := sm_nonneg (m := m) fun k hk => h k (by omega)
    have h2 := h m (by omega)
    by_cases e : k = m
    · subst e; omega
    · exact sm_zero_of (m := m) (fun k hk => h k (by omega)) (by omega) k (by omega)
theorem Beg.ph (h : Beg n rs c T) (hL : LpOk n rs c) (hw : wrS T rs.length < 0) : Ph n rs c (n + rs.length) T (bs0 n rs.length) := by
  have hV := h.view
  have hl := h.len
  have hcl : T.col.length = n := by rw [h.col, rng_len]
  have hn := hL.nn
  have hm := hL.mm
  refine ⟨⟨hV, ⟨fun v hv => ?_, fun j hj => ?_, fun i hi => ?_, fun j i hj hi => ?_, fun j k hj hk hjk => ?_⟩, fun i hi => ?_, h.hl, by omega, by omega⟩, bs0_z n rs.length, bs0_w n rs.length⟩
  · by_cases h1 : v < n
    · exact .inr ⟨v, by omega, by rw [h.col, rng_at h1, Nat.zero_add]⟩
    · exact .inl ⟨v - n, by omega, by rw [bs0_lo (by omega)]; omega⟩
  · rw [hcl] at hj; rw [h.col, rng_at hj]; omega
  · rw [bs0_lo hi]; omega
  · rw [hcl] at hj; rw [h.col, rng_at hj, bs0_lo hi]; omega
  · rw [hcl] at hj hk; rw [h.col, rng_at hj, rng_at hk]; omega
  · rw [← hV.rhs i (by omega)]; exact wrS_none hw i hi
theorem Beg.ph1 (h : Beg n rs c T) (hL : LpOk n rs c) (hw : 0 ≤ wrS T rs.length) :
    Ph n rs c (n + rs.length + 1) (pvt (insT T ((n + rs.length : Nat) : Int)) (wrS T rs.length).toNat T.col.length) ((bs0 n rs.length).set (wrS T rs.length).toNat (n + rs.length)) ∧ Gd (insT T ((n + rs.length : Nat) : Int)) := by
  have hV := h.ins
  have hV0 := h.view
  have hS := lp_sys hL
  have hl := h.len
  have hcl : T.col.length = n := by rw [h.col, rng_len]
  have hbl : T.bas.length = rs.length := by rw [h.bas, rng_len]
  have hn := hL.nn
  have hm := hL.mm
  have hwb := wrS_bd T rs.length
  have hwh := wrS_hit hw
  obtain ⟨w, hww⟩ : ∃ w : Nat, wrS T rs.length = w := ⟨(wrS T rs.length).toNat, by omega⟩
  rw [hww] at hwb hwh ⊢
  simp only [Int.toNat_natCast] at hwh ⊢
  have hrl : (insT T ((n + rs.length : Nat) : Int)).rows.length = rs.length + 2 := by show (insP _ _ _ _).length = _; rw [insP_len]; simp [hl]
  have hil : (insT T ((n + rs.length : Nat) : Int)).col.length = n + 1 := by show (T.col ++ [_]).length = _; simp [hcl]
  have hcol : ∀ j, (insT T ((n + rs.length : Nat) : Int)).col.getD j 0 = if j < n then (j : Int) else if j = n then ((n + rs.length : Nat) : Int) else 0 := fun j => by
    show (T.col ++ [_]).getD j 0 = _
    by_cases h1 : j < n
    · rw [if_pos h1, List.getD_eq_getElem?_getD, List.getElem?_append_left (by omega), ← List.getD_eq_getElem?_getD, h.col, rng_at h1, Nat.zero_add]
    · rw [if_neg h1]
      by_cases h2 : j = n
      · rw [if_pos h2, h2, ← hcl]; simp [List.getD_eq_getElem?_getD]
      · rw [if_neg h2, getD_ge (by simp [hcl]; omega)]
  have hhl : (insT T ((n + rs.length : Nat) : Int)).hl.length = rs.length + 2 := by show (T.hl ++ [default]).length = _; rw [List.length_append, h.hl, hl]; rfl
  have hart : ((insT T ((n + rs.length : Nat) : Int)).col.getD n 0).toNat = n + rs.length := by rw [hcol, if_neg (by omega), if_pos rfl, Int.toNat_natCast]
  have hcov : Cov (n + rs.length + 1) rs.length (insT T ((n + rs.length : Nat) : Int)) (bs0 n rs.length) := by
    refine ⟨fun v hv => ?_, fun j hj => ?_, fun i hi => ?_, fun j i hj hi => ?_, fun j k hj hk hjk => ?_⟩
    · by_cases h1 : v < n
      · exact .inr ⟨v, by omega, by rw [hcol, if_pos h1]⟩
      · by_cases h2 : v = n + rs.length
        · exact .inr ⟨n, by omega, by rw [hcol, if_neg (by omega), if_pos rfl, h2]⟩
        · exact .inl ⟨v - n, by omega, by rw [bs0_lo (by omega)]; omega⟩
    · rw [hcol]; split
      · omega
      · split <;> omega
    · rw [bs0_lo hi]; omega
    · rw [hil] at hj
      rw [hcol, bs0_lo hi]
      by_cases h1 : j < n
      · rw [if_pos h1]; omega
      · rw [if_neg h1, if_pos (by omega)]; omega
    · rw [hil] at hj hk
      rw [hcol, hcol]
      by_cases h1 : j < n
      · rw [if_pos h1]
        by_cases h2 : k < n
        · rw [if_pos h2]; omega
        · rw [if_neg h2, if_pos (by omega)]; omega
      · rw [if_neg h1, if_pos (by omega)]
        by_cases h2 : k < n
        · rw [if_pos h2]; omega
        · omega
  have a1 : ∀ i, i < rs.length → (insT T ((n + rs.length : Nat) : Int)).at i n = -1 := fun i hi => by
    rw [hV.num i (by omega) n (by omega), hart, bs0_tt (by omega) (colA_V _), colA_art]
    simp only
    rw [if_pos hi]
  have a2 : ∀ i, i < rs.length → (insT T ((n + rs.length : Nat) : Int)).at i (n + 1) = T.at i n := fun i hi => by
    have e1 := hV.rhs i (by omega)
    rw [hil] at e1
    have e2 := hV0.rhs i (by omega)
    rw [hcl] at e2
    rw [e1, e2]
  have hp : (insT T ((n + rs.length : Nat) : Int)).at w n ≠ 0 := by rw [a1 w (by omega)]; decide
  have hPV := hV.pvt hS.hq hS.hA (r := w) (s := n) (by omega) (by omega) hp
  have hPC := hcov.pvt hV (r := w) (s := n) (by omega) (by omega)
  rw [hart] at hPV hPC
  rw [hcl] at hwh ⊢
  refine ⟨⟨⟨hPV, hPC, fun i hi => ?_, ?_, by rw [pvt_rows, hrl]; omega, by rw [pvt_col, hil]; omega⟩, ?_, ?_⟩, hV.gd hS (by rw [hhl, hrl]) (by omega) (by omega)⟩
  · rw [← hPV.rhs i (by rw [pvt_rows, hrl]; omega), pvt_col, hil]
    rw [pvt_at (by omega) (by omega) (hV.row i (by omega)) (by omega) (by omega), if_neg (show ¬ n + 1 = n by omega), if_neg (show ¬ n + 1 = n by omega)]
    rw [a1 w (by omega), a1 i hi, a2 i hi, a2 w (by omega), if_pos (show (-1 : Int) < 0 by decide)]
    have hden : (insT T ((n + rs.length : Nat) : Int)).den = 1 := by show T.den = 1; exact h.den
    rw [hden]
    have := hwh.2 i hi
    by_cases h1 : i = w
    · rw [if_pos h1]; omega
    · rw [if_neg h1, Int.tdiv_one]; omega
  · rw [pvt_rows, hrl]; exact hhl
  · rw [getD_set' (by rw [bs0_len]; omega), if_neg (by omega)]; exact bs0_z n rs.length
  · rw [getD_set' (by rw [bs0_len]; omega), if_neg (by omega)]; exact bs0_w n rs.length
structure End1 (n : Nat) (rs : List Rw) (c : List Int) (T E : Tv) (bs : List Nat) : Prop where
  ph : Ph n rs c (n + rs.length + 1) E bs
  cover : ∀ v, v < n + rs.length + 1 → 0 ≤ tt (colA n rs c) bs (rs.length + 1) (colA n rs c v)
  rows : E.rows.length = rs.length + 2
  col : E.col.length = n + 1
theorem Beg.phase1 (h : Beg n rs c T) (hL : LpOk n rs c) (hw : 0 ≤ wrS T rs.length) :
    ∃ E bs s k, RunOk (rs.length + 1) E s k (pvt (insT T ((n + rs.length : Nat) : Int)) (wrS T rs.length).toNat T.col.length) ∧ End1 n rs c T E bs := by
  have hP := (h.ph1 hL hw).1
  have hl := h.len
  have hcl : T.col.length = n := by rw [h.col, rng_len]
  have hrl : (pvt (insT T ((n + rs.length : Nat) : Int)) (wrS T rs.length).toNat T.col.length).rows.length = rs.length + 2 := by
    rw [pvt_rows]; show (insP _ _ _ _).length = _; rw [insP_len]; simp [hl]
  have hil : (pvt (insT T ((n + rs.length : Nat) : Int)) (wrS T rs.length).toNat T.col.length).col.length = n + 1 := by
    rw [pvt_col]; show (T.col ++ [_]).length = _; simp [hcl]
  obtain ⟨k, E, s, bs, hR, hG, hE, hr, hj⟩ := hP.good.ends (lp_sys hL) (g := rs.length + 1) (by omega) (by rw [hrl]; omega) (hP.small (by omega))
  have hl2 := hR.lens
  have hPh : Ph n rs c (n + rs.length + 1) E bs := ⟨hG, by rw [hj _ (Nat.le_refl _)]; exact hP.z, by rw [hj _ (by omega)]; exact hP.w⟩
  refine ⟨E, bs, s, k, hR, hPh, ?_, by rw [hl2.1, hrl], by rw [hl2.2.2, hil]⟩
  rcases hE with ⟨_, h1⟩ | ⟨e, _, he, h1, h2⟩
  · exact h1
  · exfalso
    have hq := hPh.w_eq (Nat.le_refl _) (colA_V (n := n) (rs := rs) (c := c) (E.col.getD e 0).toNat)
    have hd := den_pos hPh.bas.ne
    have hlt := hG.cov.col e he
    have hnn := hG.view.colv e
    have hx : 0 ≤ colA n rs c (E.col.getD e 0).toNat (rs.length + 1) := by
      by_cases h3 : (E.col.getD e 0).toNat < n
      · rw [colA_low h3, if_neg (by omega), if_neg (by omega)]; exact Int.le_refl _
      · by_cases h4 : (E.col.getD e 0).toNat = n + rs.length
        · rw [h4, colA_art_w]; decide
        · obtain ⟨i, hi⟩ : ∃ i, (E.col.getD e 0).toNat = n + i := ⟨(E.col.getD e 0).toNat - n, by omega⟩
          rw [hi, colA_slack (by omega)]
          show 0 ≤ Go.Det.unit i _
          unfold Go.Det.unit; split <;> decide
    have h5 := Int.mul_nonneg (Int.le_of_lt hd) hx
    have h6 : sm (fun k => if bs.getD k 0 = n + rs.length then tt (colA n rs c) bs k (colA n rs c (E.col.getD e 0).toNat) else 0) rs.length ≤ sm (fun _ => 0) rs.length := sm_le fun k hk => by
      split
      · exact h2 k hk
      · exact Int.le_refl _
    rw [sm_zero (f := fun _ => 0) fun _ _ => rfl] at h6
    omega
end
end Go.Proofs.YtdhmbgogmoaofaaGreat
namespace Go.Proofs.YtdhmbgogmoaofaaGreat
open Go.Own Go.Limbs Go.Det
theorem erase_getD {l : List Int} {c j : Nat} : (l.eraseIdx c).getD j 0 = if j < c then l.getD j 0 else l.getD (j + 1) 0 := by
  simp only [List.getD_eq_getElem?_getD, List.getElem?_eraseIdx]
  split <;> rfl
section
variable {n : Nat} {rs : List Rw} {c : List Int} {W : Nat} {T E : Tv} {bs : List Nat}
theorem Ph.row_ne (h : Ph n rs c (n + rs.length + 1) E bs) {r : Nat} (hr : r < rs.length) (hb : bs.getD r 0 = n + rs.length) : ∃ j, j < E.col.length ∧ E.at r j ≠ 0 := by
  refine Classical.byContradiction fun hno => ?_
  have hz : ∀ j, j < E.col.length → E.at r j = 0 := fun j hj => Classical.byContradiction fun h1 => hno ⟨j, hj, h1⟩
  have hV := h.good.view
  have hB := h.bas
  have hrE : r < E.rows.length := by have := hV.rm; omega
  have hu : ∀ k, k < rs.length + 2 → tt (colA n rs c) bs r (Go.Det.unit k) = 0 := fun k hk => by
    by_cases h1 : k < rs.length
    · rw [← colA_slack (n := n) (c := c) h1]
      rcases h.good.cov.all (n + k) (by omega) with ⟨i, hi, he⟩ | ⟨j, hj, he⟩
      · rw [← he]
        exact tt_other hB.len (by omega) (by omega) (fun e => by rw [e, hb] at he; omega)
      · have := hV.num r hrE j hj
        rw [hz j hj, he, Int.toNat_natCast] at this
        exact this.symm
    · by_cases h2 : k = rs.length
      · rw [h2, ← colA_z (n := n) (c := c), ← h.z]; exact tt_other hB.len (by omega) (by omega) (by omega)
      · rw [show k = rs.length + 1 by omega, ← colA_w (n := n) (c := c), ← h.w]; exact tt_other hB.len (by omega) (by omega) (by omega)
  have e : colA n rs c (n + rs.length) = comb (colA n rs c (n + rs.length)) Go.Det.unit (rs.length + 2) := by
    funext j
    unfold comb
    by_cases hj : j < rs.length + 2
    · rw [sm_one hj fun k _ hk => by simp [Go.Det.unit, Ne.symm hk]]; simp [Go.Det.unit]
    · rw [colA_V _ j (by omega), sm_zero fun k hk => by rw [show Go.Det.unit k j = 0 from if_neg (by omega), Int.mul_zero]]
  have h3 : tt (colA n rs c) bs r (colA n rs c (n + rs.length)) = 0 := by
    have e2 : dT (colA n rs c) bs r (colA n rs c (n + rs.length)) = sm (fun k => colA n rs c (n + rs.length) k * dT (colA n rs c) bs r (Go.Det.unit k)) (rs.length + 2) := by
      unfold dT
      conv => lhs; rw [e]
      exact dt_set_comb (by rw [cols_len, hB.len]; omega) _ _ _
    unfold tt
    rw [e2, ← sm_mul]
    refine sm_zero fun k hk => ?_
    have := hu k hk
    unfold tt at this
    have : (dD (colA n rs c) bs).sign * (colA n rs c (n + rs.length) k * dT (colA n rs c) bs r (Go.Det.unit k)) = colA n rs c (n + rs.length) k * ((dD (colA n rs c) bs).sign * dT (colA n rs c) bs r (Go.Det.unit k)) := by grind
    rw [this, ‹(dD (colA n rs c) bs).sign * dT (colA n rs c) bs r (Go.Det.unit k) = 0›, Int.mul_zero]
  rw [← hb, tt_own hB.len (by omega)] at h3
  have := den_pos hB.ne
  omega
theorem Ph.swap (h : Ph n rs c W T bs) (hL : LpOk n rs c) {r s : Nat} (hr : r < rs.length) (hs : s < T.col.length) (hp : T.at r s ≠ 0) (h0 : tt (colA n rs c) bs r (rhsQ rs) = 0) : Ph n rs c W (pvt T r s) (bs.set r (T.col.getD s 0).toNat) := by
  have hS := lp_sys hL
  have hV := h.good.view
  have hB := h.bas
  have hrT : r < T.rows.length := by have := hV.rm; omega
  have hp' := hp
  rw [hV.num r hrT s hs] at hp'
  have hd := den_pos hB.ne
  refine ⟨⟨hV.pvt hS.hq hS.hA hr hs hp, h.good.cov.pvt hV hr hs, fun i hi => ?_, by rw [pvt_rows]; exact h.good.hl, by rw [pvt_rows]; exact h.good.few, by rw [pvt_col]; exact h.good.thin⟩, ?_, ?_⟩
  · have hsg := hB.gsgn hp'
    by_cases hir : i = r
    · subst hir
      unfold tt at h0 ⊢
      rw [piv_r]
      rcases Int.mul_eq_zero.1 h0 with h1 | h1
      · exact absurd h1 (by have := sgn_sq hB.ne; intro h2; rw [h2] at this; simp at this)
      · rw [h1, Int.mul_zero]; exact Int.le_refl _
    · have hg := hB.gen (s := (T.col.getD s 0).toNat) (show r < rs.length + 2 by omega) (show i < rs.length + 2 by omega) hir hS.hq
      rw [h0, Int.zero_mul, Int.sub_zero] at hg
      have hf := h.good.feas i hi
      have e : Go.Det.den (colA n rs c) bs * tt (colA n rs c) (bs.set r (T.col.getD s 0).toNat) i (rhsQ rs) = (tt (colA n rs c) bs r (colA n rs c (T.col.getD s 0).toNat)).natAbs * tt (colA n rs c) bs i (rhsQ rs) := by
        unfold tt at hg hsg ⊢
        rcases hsg with ⟨h1, h2⟩ | ⟨h1, h2⟩
        · rw [h1, hg]; congr 1; omega
        · rw [h1, Int.neg_mul, Int.mul_neg, hg, ← Int.neg_mul]; congr 1; omega
      have h3 : 0 ≤ ((tt (colA n rs c) bs r (colA n rs c (T.col.getD s 0).toNat)).natAbs : Int) * tt (colA n rs c) bs i (rhsQ rs) := Int.mul_nonneg (by omega) hf
      rw [← e] at h3
      rcases (show tt (colA n rs c) (bs.set r (T.col.getD s 0).toNat) i (rhsQ rs) < 0 ∨ 0 ≤ tt (colA n rs c) (bs.set r (T.col.getD s 0).toNat) i (rhsQ rs) by omega) with h4 | h4
      · have := Int.mul_neg_of_pos_of_neg hd h4; omega
      · exact h4
  · rw [getD_set' (by rw [hB.len]; omega), if_neg (by omega)]; exact h.z
  · rw [getD_set' (by rw [hB.len]; omega), if_neg (by omega)]; exact h.w
theorem Ph.cut (h : Ph n rs c (n + rs.length + 1) T bs) (hrl : T.rows.length = rs.length + 2) (hna : ∀ i, i < rs.length → bs.getD i 0 ≠ n + rs.length) {cx : Nat} (hc : cx < T.col.length) (hce : T.col.getD cx 0 = ((n + rs.length : Nat) : Int)) :
    Ph n rs c (n + rs.length) { T with rows := delP cx (T.rows.take (rs.length + 1)) (rs.length + 1), col := T.col.eraseIdx cx, hl := T.hl.take (rs.length + 1) } bs := by
  have hV := h.good.view
  have hC := h.good.cov
  have hcl : (T.col.eraseIdx cx).length = T.col.length - 1 := by rw [List.length_eraseIdx, if_pos hc]
  have htl : (T.rows.take (rs.length + 1)).length = rs.length + 1 := by rw [List.length_take]; omega
  have hrow : ∀ i, i < rs.length + 1 → (delP cx (T.rows.take (rs.length + 1)) (rs.length + 1)).getD i [] = (T.rows.getD i []).eraseIdx cx := fun i hi => by
    unfold delP
    rw [range_getD _ _ _ (by omega), if_pos hi, List.getD_eq_getElem?_getD, List.getElem?_take, if_pos hi, ← List.getD_eq_getElem?_getD]
  have hdl : (delP cx (T.rows.take (rs.length + 1)) (rs.length + 1)).length = rs.length + 1 := by rw [delP_len, htl]
  have pl : ∀ j, (T.col.eraseIdx cx).getD j 0 = T.col.getD (if j < cx then j else j + 1) 0 := fun j => by rw [erase_getD]; split <;> rfl
  refine ⟨⟨⟨hV.bas, hV.den, fun i hi j hj => ?_, fun i hi => ?_, hV.basl, hV.basv, fun j => ?_, fun i hi => ?_, by show _ ≤ (delP _ _ _).length; omega, by show (delP _ _ _).length ≤ _; omega⟩, ⟨fun v hv => ?_, fun j hj => ?_, fun i hi => ?_, fun j i hj hi => ?_, fun j k hj hk hjk => ?_⟩, h.good.feas, ?_, by show (delP _ _ _).length ≤ _; have := h.good.few; omega, by show (T.col.eraseIdx cx).length ≤ _; have := h.good.thin; omega⟩, h.z, h.w⟩
  · show ((delP cx (T.rows.take (rs.length + 1)) (rs.length + 1)).getD i []).getD j 0 = tt _ _ _ (colA n rs c ((T.col.eraseIdx cx).getD j 0).toNat)
    have hi' : i < rs.length + 1 := by rw [← hdl]; exact hi
    have hj' : j < T.col.length - 1 := by rw [← hcl]; exact hj
    rw [hrow i hi', pl, erase_getD]
    have := hV.num i (by omega) (if j < cx then j else j + 1) (by split <;> omega)
    rw [← this]
    unfold Tv.at
    split <;> rfl
  · show ((delP cx (T.rows.take (rs.length + 1)) (rs.length + 1)).getD i []).getD (T.col.eraseIdx cx).length 0 = _
    have hi' : i < rs.length + 1 := by rw [← hdl]; exact hi
    rw [hrow i hi', hcl, erase_getD, if_neg (by omega), show T.col.length - 1 + 1 = T.col.length by omega]
    exact hV.rhs i (by omega)
  · show 0 ≤ (T.col.eraseIdx cx).getD j 0
    rw [pl]; exact hV.colv _
  · show ((delP cx (T.rows.take (rs.length + 1)) (rs.length + 1)).getD i []).length = (T.col.eraseIdx cx).length + 1
    have hi' : i < rs.length + 1 := by rw [← hdl]; exact hi
    have := hV.row i (by omega)
    rw [hrow i hi', hcl, List.length_eraseIdx, if_pos (by omega)]; omega
  · rcases hC.all v (by omega) with h1 | ⟨j, hj, he⟩
    · exact .inl h1
    · have hjc : j ≠ cx := fun e => by rw [e, hce] at he; omega
      by_cases h2 : j < cx
      · exact .inr ⟨j, by show j < (T.col.eraseIdx cx).length; omega, by show (T.col.eraseIdx cx).getD j 0 = _; rw [pl, if_pos h2]; exact he⟩
      · exact .inr ⟨j - 1, by show _ < (T.col.eraseIdx cx).length; omega, by show (T.col.eraseIdx cx).getD _ 0 = _; rw [pl, if_neg (by omega), show j - 1 + 1 = j by omega]; exact he⟩
  · have hj' : j < T.col.length - 1 := by rw [← hcl]; exact hj
    show (T.col.eraseIdx cx).getD j 0 < _
    rw [pl]
    have h1 := hC.col (if j < cx then j else j + 1) (by split <;> omega)
    have h2 := hC.inj (if j < cx then j else j + 1) cx (by split <;> omega) hc (by split <;> omega)
    rw [hce] at h2
    omega
  · have h1 := hC.bas i hi
    have h2 := hna i hi
    omega
  · have hj' : j < T.col.length - 1 := by rw [← hcl]; exact hj
    show (T.col.eraseIdx cx).getD j 0 ≠ _
    rw [pl]
    exact hC.dis _ i (by split <;> omega) hi
  · have hj' : j < T.col.length - 1 := by rw [← hcl]; exact hj
    have hk' : k < T.col.length - 1 := by rw [← hcl]; exact hk
    show (T.col.eraseIdx cx).getD j 0 ≠ (T.col.eraseIdx cx).getD k 0
    rw [pl, pl]
    exact hC.inj _ _ (by split <;> omega) (by split <;> omega) (by split <;> split <;> omega)
  · show (T.hl.take (rs.length + 1)).length = (delP _ _ _).length
    rw [hdl, List.length_take, h.good.hl]; omega
inductive Start (n : Nat) (rs : List Rw) (c : List Int) (T E : Tv) : Prop where
  | keep (hw : wrS T rs.length < 0) (h : Ph n rs c (n + rs.length) T (bs0 n rs.length)) (hc : T.col.length = n)
  | none (bs : List Nat) (hw : 0 ≤ wrS T rs.length) (h : End1 n rs c T E bs) (hv : tt (colA n rs c) bs (rs.length + 1) (rhsQ rs) < 0) (ha : E.at (rs.length + 1) (n + 1) < 0)
  | some (bs : List Nat) (hw : 0 ≤ wrS T rs.length) (ha : ¬ E.at (rs.length + 1) (n + 1) < 0) (h : Ph n rs c (n + rs.length) (stE3 E rs.length n ((n + rs.length : Nat) : Int)) bs) (hc : (stE3 E rs.length n ((n + rs.length : Nat) : Int)).col.length = n) (hr : (stE3 E rs.length n ((n + rs.length : Nat) : Int)).rows.length = rs.length + 1)
theorem Beg.start (h : Beg n rs c T) (hL : LpOk n rs c) : ∃ E, (0 ≤ wrS T rs.length → StartRun T ((n + rs.length : Nat) : Int) E) ∧ Start n rs c T E := by
  have hcl : T.col.length = n := by rw [h.col, rng_len]
  have hbl : T.bas.length = rs.length := by rw [h.bas, rng_len]
  by_cases hw : wrS T rs.length < 0
  · exact ⟨T, fun h1 => by omega, .keep hw (h.ph hL hw) hcl⟩
  have hw' : 0 ≤ wrS T rs.length := by omega
  obtain ⟨E, bs, s, k, hR, hE⟩ := h.phase1 hL hw'
  have hP := hE.ph
  have hV := hP.good.view
  have hC := hP.good.cov
  have hB := hP.bas
  have hval : E.at (rs.length + 1) (n + 1) = tt (colA n rs c) bs (rs.length + 1) (rhsQ rs) := by rw [← hE.col]; exact hV.rhs _ (by rw [hE.rows]; omega)
  have hebl : E.bas.length = rs.length := hV.basl
  by_cases hv : E.at (rs.length + 1) (n + 1) < 0
  · refine ⟨E, fun _ => ⟨by rw [hbl]; exact hw', (h.ph1 hL hw').2, ⟨s, k, by rw [hbl]; exact hR⟩, ?_, ?_, ?_⟩, .none bs hw' hE (by rw [← hval]; exact hv) hv⟩
    all_goals (intro h1; rw [hbl, hcl] at h1; exact absurd hv h1)
  have hq0 := hP.w_eq (Nat.le_refl _) (rhsQ_V (rs := rs))
  have hq1 : rhsQ rs (rs.length + 1) = 0 := if_neg (by omega)
  rw [hq1, Int.mul_zero] at hq0
  have hz := sm_zero_of (f := fun k => if bs.getD k 0 = n + rs.length then tt (colA n rs c) bs k (rhsQ rs) else 0) (m := rs.length) (fun k hk => by
    show 0 ≤ (if bs.getD k 0 = n + rs.length then tt (colA n rs c) bs k (rhsQ rs) else 0)
    split
    · exact hP.good.feas k hk
    · exact Int.le_refl _) (by omega)
  have hr2 : (0 ≤ fIx E.bas ((n + rs.length : Nat) : Int) → 0 ≤ nzC E n ((n + rs.length : Nat) : Int)) ∧ ∃ bs2, Ph n rs c (n + rs.length + 1) (stE2 E n ((n + rs.length : Nat) : Int)) bs2 ∧ ∀ i, i < rs.length → bs2.getD i 0 ≠ n + rs.length := by
    by_cases hf : fIx E.bas ((n + rs.length : Nat) : Int) < 0
    · refine ⟨fun h1 => by omega, bs, by unfold stE2; rw [if_pos hf]; exact hP, fun i hi he => ?_⟩
      have : 0 ≤ fIx E.bas ((n + rs.length : Nat) : Int) := idxI_nn (k := i) 0 (by omega) (by rw [hV.basv i hi, he]; simp)
      omega
    · have hg := idxI_get (p := fun x => decide (((n + rs.length : Nat) : Int) = x)) (xs := E.bas) 0 (show 0 ≤ fIx E.bas ((n + rs.length : Nat) : Int) by omega)
      obtain ⟨r, hr⟩ : ∃ r : Nat, fIx E.bas ((n + rs.length : Nat) : Int) = r := ⟨(fIx E.bas ((n + rs.length : Nat) : Int)).toNat, by omega⟩
      rw [show idxI (fun x => decide (((n + rs.length : Nat) : Int) = x)) E.bas = fIx E.bas ((n + rs.length : Nat) : Int) from rfl, hr] at hg
      simp only [Int.toNat_natCast, decide_eq_true_eq] at hg
      have hrm : r < rs.length := by omega
      have hbr : bs.getD r 0 = n + rs.length := by have := hV.basv r hrm; omega
      obtain ⟨j0, hj0, hj1⟩ := hP.row_ne hrm hbr
      have hrl := hV.row r (by rw [hE.rows]; omega)
      rw [hE.col] at hrl
      have hnz : 0 ≤ nzC E n ((n + rs.length : Nat) : Int) := by
        unfold nzC
        rw [hr, Int.toNat_natCast]
        refine idxI_nn (k := j0) 0 (by rw [List.length_take]; have := hE.col; omega) ?_
        have : ((E.rows.getD r []).take (n + 1)).getD j0 0 = E.at r j0 := by
          rw [List.getD_eq_getElem?_getD, List.getElem?_take, if_pos (by have := hE.col; omega), ← List.getD_eq_getElem?_getD]
        rw [this]; exact decide_eq_true hj1
      refine ⟨fun _ => hnz, ?_⟩
      have hng := idxI_get (p := fun x => decide (x ≠ 0)) (xs := (E.rows.getD (fIx E.bas ((n + rs.length : Nat) : Int)).toNat []).take (n + 1)) 0 hnz
      rw [show idxI (fun x => decide (x ≠ 0)) ((E.rows.getD (fIx E.bas ((n + rs.length : Nat) : Int)).toNat []).take (n + 1)) = nzC E n ((n + rs.length : Nat) : Int) from rfl, hr] at hng
      obtain ⟨s2, hs2⟩ : ∃ s2 : Nat, nzC E n ((n + rs.length : Nat) : Int) = s2 := ⟨(nzC E n ((n + rs.length : Nat) : Int)).toNat, by omega⟩
      rw [hs2] at hng
      simp only [Int.toNat_natCast, decide_eq_true_eq, List.length_take] at hng
      have hs2n : s2 < n + 1 := by omega
      have hat : ((E.rows.getD r []).take (n + 1)).getD s2 0 = E.at r s2 := by
        rw [List.getD_eq_getElem?_getD, List.getElem?_take, if_pos hs2n, ← List.getD_eq_getElem?_getD]
      rw [hat] at hng
      have h0 : (if bs.getD r 0 = n + rs.length then tt (colA n rs c) bs r (rhsQ rs) else 0) = 0 := hz r hrm
      rw [if_pos hbr] at h0
      have hsw := hP.swap hL hrm (s := s2) (by rw [hE.col]; exact hs2n) hng.2 h0
      refine ⟨_, by unfold stE2; rw [if_neg hf, hr, hs2, Int.toNat_natCast, Int.toNat_natCast]; exact hsw, fun i hi he => ?_⟩
      rw [getD_set' (by rw [hB.len]; omega)] at he
      by_cases hir : r = i
      · rw [if_pos hir] at he
        have := hC.dis s2 r (by rw [hE.col]; exact hs2n) hrm
        have h5 := hV.colv s2
        rw [hbr] at this
        omega
      · rw [if_neg hir] at he
        exact hB.ne (dup_zero (i := r) (k := i) (by rw [hB.len]; omega) (by rw [hB.len]; omega) (Ne.symm hir) (by rw [hbr, he]))
  obtain ⟨hnz, bs2, hP2, hna⟩ := hr2
  have hV2 := hP2.good.view
  have e2r : (stE2 E n ((n + rs.length : Nat) : Int)).rows.length = rs.length + 2 := by
    unfold stE2; split
    · exact hE.rows
    · rw [pvt_rows]; exact hE.rows
  have e2c : (stE2 E n ((n + rs.length : Nat) : Int)).col.length = n + 1 := by
    unfold stE2; split
    · exact hE.col
    · rw [pvt_col]; exact hE.col
  have hout : 0 ≤ fIx (stE2 E n ((n + rs.length : Nat) : Int)).col ((n + rs.length : Nat) : Int) := by
    rcases hP2.good.cov.all (n + rs.length) (by omega) with ⟨i, hi, he⟩ | ⟨j, hj, he⟩
    · exact absurd he (hna i hi)
    · exact idxI_nn (k := j) 0 hj (by rw [he]; simp)
  have hfit : Fit (stE2 E n ((n + rs.length : Nat) : Int)) := ⟨hP2.good.hl, hV2.row, by rw [hV2.basl]; exact hV2.rm, hP2.good.few, hP2.good.thin⟩
  refine ⟨E, fun _ => ⟨by rw [hbl]; exact hw', (h.ph1 hL hw').2, ⟨s, k, by rw [hbl]; exact hR⟩, fun _ => by rw [hcl]; exact hnz, fun _ => by rw [hcl]; exact hfit, fun _ => by rw [hcl]; exact hout⟩, ?_⟩
  have hg := idxI_get (p := fun x => decide (((n + rs.length : Nat) : Int) = x)) (xs := (stE2 E n ((n + rs.length : Nat) : Int)).col) 0 hout
  rw [show idxI (fun x => decide (((n + rs.length : Nat) : Int) = x)) (stE2 E n ((n + rs.length : Nat) : Int)).col = fIx (stE2 E n ((n + rs.length : Nat) : Int)).col ((n + rs.length : Nat) : Int) from rfl] at hg
  have hcut := hP2.cut e2r hna hg.1 (of_decide_eq_true hg.2).symm
  refine .some bs2 hw' hv hcut ?_ ?_
  · show ((stE2 E n ((n + rs.length : Nat) : Int)).col.eraseIdx _).length = n
    rw [List.length_eraseIdx, if_pos hg.1, e2c]; rfl
  · show (delP _ _ _).length = _
    rw [delP_len, List.length_take, e2r]; omega
end
end Go.Proofs.YtdhmbgogmoaofaaGreat
namespace Go.Proofs.YtdhmbgogmoaofaaGreat
open Go.Own Go.Limbs Go.Det
theorem wrS_wh (T H : Tv) : ∀ i, wrS (T.wh H) i = wrS T i
  | 0 => rfl
  | i + 1 => by simp only [wrS, wrS_wh T H i]; rfl
theorem ptS_wh (T H : Tv) (n : Nat) : ∀ i, ptS (T.wh H) n i = ptS T n i
  | 0 => rfl
  | i + 1 => by simp only [ptS, ptS_wh T H n i]; rfl
theorem duS_wh (T H : Tv) (n m gi : Nat) : ∀ i, duS (T.wh H) n m gi i = duS T n m gi i
  | 0 => rfl
  | i + 1 => by simp only [duS, duS_wh T H n m gi i]; rfl
theorem raS_wh (T H : Tv) (n s : Nat) : ∀ i, raS (T.wh H) n s i = raS T n s i
  | 0 => rfl
  | i + 1 => by simp only [raS, raS_wh T H n s i]; rfl
theorem Fit.wh {T H : Tv} (F : Fit T) (h : H.hl.length = T.rows.length) : Fit (T.wh H) := ⟨h, F.row, F.bas, F.few, F.thin⟩
theorem stE2_wh (E H : Tv) (last : Nat) (art : Int) : stE2 (E.wh H) last art = (stE2 E last art).wh H := by
  unfold stE2
  show (if fIx E.bas art < 0 then E.wh H else pvt (E.wh H) (fIx E.bas art).toNat (nzC E last art).toNat) = _
  split
  · rfl
  · rfl
theorem stE3_wh (E H H1 : Tv) (m last : Nat) (art : Int) : (stE3 (E.wh H) m last art).wh H1 = (stE3 E m last art).wh H1 := by
  unfold stE3
  simp only [stE2_wh]
  rfl
theorem stRes_wh (T E H H' : Tv) : stRes (T.wh H) (E.wh H') = stRes T E := by
  unfold stRes
  rw [show (T.wh H).bas = T.bas from rfl, wrS_wh]; rfl
theorem stOut_wh (T E H H' H1 : Tv) (art : Int) : (stOut (T.wh H) (E.wh H') art).wh H1 = (stOut T E art).wh H1 := by
  unfold stOut
  rw [show (T.wh H).bas = T.bas from rfl, wrS_wh, show (T.wh H).col = T.col from rfl, show (E.wh H').at (T.bas.length + 1) (T.col.length + 1) = E.at (T.bas.length + 1) (T.col.length + 1) from rfl]
  split
  · rfl
  · split
    · rfl
    · exact stE3_wh E H' H1 _ _ art
theorem stOut_rows (T E H H' : Tv) (art : Int) : (stOut (T.wh H) (E.wh H') art).rows.length = (stOut T E art).rows.length := by
  have := congrArg (fun X : Tv => X.rows.length) (stOut_wh T E H H' T art)
  exact this
theorem StartRun.wh {T E : Tv} {art : Int} (h : StartRun T art E) (H : Tv) (hl : H.hl.length = T.rows.length) : StartRun (T.wh H) art (E.wh { H with hl := H.hl ++ [default] }) := by
  have e1 : (insT (T.wh H) art) = (insT T art).wh { H with hl := H.hl ++ [default] } := rfl
  have hl1 : ({ H with hl := H.hl ++ [default] } : Tv).hl.length = (insT T art).rows.length := by
    show (H.hl ++ [default]).length = (insP _ _ _ _).length
    rw [insP_len]; simp [hl]
  obtain ⟨s, k, hr⟩ := h.run
  have lE := hr.lens
  rw [pvt_rows] at lE
  refine ⟨by rw [show (T.wh H).bas = T.bas from rfl, wrS_wh]; exact h.worst, by rw [e1]; exact h.gd.wh hl1, ⟨s, k, ?_⟩, h.piv, fun h1 => ?_, fun h1 => ?_⟩
  · rw [show (T.wh H).bas = T.bas from rfl, wrS_wh, e1]
    exact hr.wh (by rw [pvt_rows]; exact hl1)
  · rw [stE2_wh]
    refine (h.fit2 h1).wh ?_
    rw [(stE2_lens E _ art).1, lE.1]; exact hl1
  · rw [stE2_wh]; exact h.out h1
structure Oc where
  kind : Int
  value : Fr
  point : List Fr
  ray : List Fr
  dual : List Fr
def frz0 : Fr := ⟨false, 0, 0⟩
def ocOf (n m : Nat) (T E F : Tv) (s : Int) : Oc :=
  if stRes T E = false then ⟨3, frz0, [], [], (duS E n m (m + 1) E.col.length).map ofQ⟩
  else if 0 ≤ s then ⟨2, frz0, (ptS F n F.bas.length).map ofQ, (raS F n s.toNat F.bas.length).map ofQ, []⟩
  else ⟨1, ofQ (shq (F.at m F.col.length) F.den), (ptS F n F.bas.length).map ofQ, [], (duS F n m m F.col.length).map ofQ⟩
structure SolRun (n : Nat) (rs : List Rw) (c : List Int) (T E F : Tv) (s : Int) : Prop where
  beg : Beg n rs c T
  start : 0 ≤ wrS T rs.length → StartRun T ((n + rs.length : Nat) : Int) E
  eg : stRes T E = false → Gd E ∧ E.rows.length = rs.length + 2 ∧ ∀ i, 0 ≤ E.col.getD i 0
  run : stRes T E = true → ∃ k, RunOk rs.length F s k (stOut T E ((n + rs.length : Nat) : Int))
  fr : stRes T E = true → F.rows.length = rs.length + 1 ∧ (∀ i, 0 ≤ F.col.getD i 0) ∧ (∀ i, 0 ≤ F.bas.getD i 0) ∧ s < F.col.length ∧ -1 ≤ s
end Go.Proofs.YtdhmbgogmoaofaaGreat
namespace Go.Proofs.YtdhmbgogmoaofaaGreat
open Go.Own Go.Limbs
attribute [local irreducible] St Ops Go.Own.Fin Ok
theorem zvRow : (Tryz.prog.info? 57).map (·.zero) = some (some (.agg #[.slice none 0 0, .int .i64 0])) := by kernel_rfl
def badR (n : Int) (r : Rw) : Bool := !okCoeffs n r.cs || decide (r.b < -4503599627370496) || decide (4503599627370496 < r.b)
set_option maxHeartbeats 2000000 in
theorem LValid1_ok (n : Int) (r : Rw) (hl : r.cs.length < 4611686018427387904) : Ok Tryz.prog 90 ([rowC r] ++ [.fr (ptrT [intC n])]) (boolC (badR n r)) := by
  refine Ok.enter Tryz.func90 rfl _ Tryz.ntmps90 rfl ?_
  intro S w
  (refine Qy (Qx fun K hK => ?_); refine Qt 0 rfl rfl rfl rfl rfl rfl rfl ?_; refine Qv rfl rfl rfl ?_; refine Qj (hK _ _ (Qz (Qy ?_))); clear hK K; refine Qx (fun K hK => ?_); refine Qm rfl rfl rfl (by with_reducible first | exact lInt | exact lNat | exact lBool | exact lInts) rfl ?_; refine QV rfl rfl rfl (by with_reducible first | exact fF0 | exact fF1 | exact fF2 | exact fR0 | exact fR1) rfl ?_; refine QJ rfl rfl rfl rfl rfl (by with_reducible first | exact lInt | exact lNat | exact lBool | exact lInts) rfl ?_)
  refine QX govalidCoeffs (validCoeffs_ok n r.cs hl) rfl rfl rfl rfl ?_
  (refine Qr rfl rfl rfl ?_; refine Qq rfl rfl rfl ?_)
  refine XJ 9 rfl (fun h => ?_) (fun h => ?_)
  · (refine Qk rfl rfl rfl ?_; refine Qk rfl rfl rfl ?_; refine Qk rfl rfl rfl ?_; refine Q7 rfl rfl rfl rfl ?_; refine Qq rfl rfl rfl ?_; refine Qk rfl rfl rfl ?_; refine Qk rfl rfl rfl ?_; refine Qk rfl rfl rfl ?_; refine Q7 rfl rfl rfl rfl ?_; refine Qv rfl rfl rfl ?_; refine Qj (hK _ _ (Qz (Q3 ?_))); clear hK K)
    refine QK [_] rfl (QQ rfl Qu) (by unfold badR; rw [h]; rfl) rfl
  · (refine QV rfl rfl rfl (by with_reducible first | exact fF0 | exact fF1 | exact fF2 | exact fR0 | exact fR1) rfl ?_; refine QJ rfl rfl rfl rfl rfl (by with_reducible first | exact lInt | exact lNat | exact lBool | exact lInts) rfl ?_; refine Qw ilss rfl rfl rfl rfl ?_; refine Q6 rfl rfl rfl rfl ?_; refine Qq rfl rfl rfl ?_)
    refine Qg 14 rfl (fun h2 => ?_) (fun h2 => ?_)
    · (refine Qk rfl rfl rfl ?_; refine Qk rfl rfl rfl ?_; refine Qk rfl rfl rfl ?_; refine Q7 rfl rfl rfl rfl ?_; refine Qv rfl rfl rfl ?_; refine Qj (hK _ _ (Qz (Q3 ?_))); clear hK K)
      refine QK [_] rfl (QQ rfl Qu) (by unfold badR; rw [h, decide_eq_true h2]; rfl) rfl
    · (refine QV rfl rfl rfl (by with_reducible first | exact fF0 | exact fF1 | exact fF2 | exact fR0 | exact fR1) rfl ?_; refine QJ rfl rfl rfl rfl rfl (by with_reducible first | exact lInt | exact lNat | exact lBool | exact lInts) rfl ?_; refine Qw igtr rfl rfl rfl rfl ?_; refine Q6 rfl rfl rfl rfl ?_; refine Qv rfl rfl rfl ?_; refine Qj (hK _ _ (Qz (Q3 ?_))); clear hK K)
      refine QK [_] rfl (QQ rfl Qu) (by unfold badR; rw [h, decide_eq_false h2]; rfl) rfl
theorem goLValid1 : InGo Tryz.prog 90 := InGo.of Tryz.func90 (by kernel_rfl) (by kernel_rfl)
def validR (n : Int) (rs : List Rw) : Bool := decide (0 ≤ n) && decide (n ≤ 16) && decide (rs.length ≤ 64) && !rs.any (badR n)
set_option maxHeartbeats 2000000 in
theorem LValid_ok (n : Int) (rs : List Rw) (hl : rs.length < 4611686018427387904) (hr : ∀ r ∈ rs, r.cs.length < 4611686018427387904) : Ok Tryz.prog 29 [intC n, rowsC rs] (boolC (validR n rs)) := by
  refine Ok.enter Tryz.func29 rfl _ Tryz.ntmps29 rfl ?_
  intro S w
  (refine Qy (Qx fun K hK => ?_); refine Ops.box1 0 rfl rfl rfl rfl rfl rfl rfl ?_; refine Qv rfl rfl rfl ?_; refine Qj (hK _ _ (Qz (Qy (Qy ?_)))); clear hK K; refine Qx (fun K hK => ?_); refine Ops.ld1O rfl rfl rfl rfl rfl (by with_reducible first | exact lInt | exact lNat | exact lBool | exact lInts) rfl ?_; refine Qw ilss rfl rfl rfl rfl ?_; refine Qq rfl rfl rfl ?_)
  refine Qg 7 rfl (fun h => ?_) (fun h => ?_)
  · (refine Qk rfl rfl rfl ?_; refine Qk rfl rfl rfl ?_; refine Q7 rfl rfl rfl rfl ?_; refine Qq rfl rfl rfl ?_; refine Qk rfl rfl rfl ?_; refine Qk rfl rfl rfl ?_; refine Qk rfl rfl rfl ?_; refine Q7 rfl rfl rfl rfl ?_; refine Qj (hK _ _ (Qz (Xk rfl (Qy ?_)))); clear hK K; refine Qx (fun K hK => ?_); refine Qv rfl rfl rfl ?_; refine Qj (hK _ _ (Qz (Q3 (QW ?_)))); clear hK K)
    refine QK [_] rfl (QQ rfl Qu) (by unfold validR; rw [decide_eq_false (show ¬ 0 ≤ n by omega)]; rfl) rfl
  · (refine Ops.ld1O rfl rfl rfl rfl rfl (by with_reducible first | exact lInt | exact lNat | exact lBool | exact lInts) rfl ?_; refine Qw igtr rfl rfl rfl rfl ?_; refine Q6 rfl rfl rfl rfl ?_; refine Qq rfl rfl rfl ?_)
    refine Qg 11 rfl (fun h2 => ?_) (fun h2 => ?_)
    · (refine Qk rfl rfl rfl ?_; refine Qk rfl rfl rfl ?_; refine Qk rfl rfl rfl ?_; refine Q7 rfl rfl rfl rfl ?_; refine Qj (hK _ _ (Qz (Xk rfl (Qy ?_)))); clear hK K; refine Qx (fun K hK => ?_); refine Qv rfl rfl rfl ?_; refine Qj (hK _ _ (Qz (Q3 (QW ?_)))); clear hK K)
      refine QK [_] rfl (QQ rfl Qu) (by unfold validR; rw [decide_eq_false (show ¬ n ≤ 16 by omega), Bool.and_false]; rfl) rfl
    · (refine Qq rfl rfl rfl ?_; refine Q4 rfl rfl (by with_reducible first | exact sFracs.und | exact sRows.und) (List.length_map ..) rfl ?_; refine Qw igtr rfl rfl rfl rfl ?_; refine Q6 rfl rfl rfl rfl ?_; refine Qj (hK _ _ (Qz ?_)); clear hK K)
      refine Q0 rfl (fun h3 => ?_) (fun h3 => ?_)
      · (refine Qy (Qx fun K hK => ?_); refine Qv rfl rfl rfl ?_; refine Qj (hK _ _ (Qz (Q3 (QW ?_)))); clear hK K)
        refine QK [_] rfl (QQ rfl Qu) (by unfold validR; rw [decide_eq_false (show ¬ rs.length ≤ 64 by omega), Bool.and_false]; rfl) rfl
      · refine XW 0 _ rfl rfl noBor_sub ?_
        (refine QU (Qz (Qy (Qx fun K hK => ?_))); refine Qq rfl rfl rfl ?_)
        refine Ops.makeFunc rfl rfl rfl ?_
        refine QX goContainsFunc_rows (ContainsFunc_rows rs _ _ (badR n) goLValid1 (fun r hr' => LValid1_ok n r (hr r hr')) hl) rfl rfl rfl rfl ?_
        (refine Qr rfl rfl rfl ?_; refine Qv rfl rfl rfl ?_; refine Qj (hK _ _ (Qz (Q3 ?_))); clear hK K)
        refine QK [_] rfl (QQ rfl Qu) (by unfold validR; rw [decide_eq_true (show 0 ≤ n by omega), decide_eq_true (show n ≤ 16 by omega), decide_eq_true (show rs.length ≤ 64 by omega)]; rfl) rfl
theorem goLValid : InGo Tryz.prog 29 := InGo.of Tryz.func29 (by kernel_rfl) (by kernel_rfl)
def dotN (c x : List Int) : Nat → Int
  | 0 => 0
  | k + 1 => dotN c x k + c.getD k 0 * x.getD k 0
def dot (c x : List Int) : Int := dotN c x (min c.length x.length)
theorem goValue : InGo Tryz.prog 17 := InGo.of Tryz.func17 (by kernel_rfl) (by kernel_rfl)
end Go.Proofs.YtdhmbgogmoaofaaGreat
namespace Go.Proofs.YtdhmbgogmoaofaaGreat
open Go.Own Go.Limbs
attribute [local irreducible] St Ops Go.Own.Fin Ok
theorem cmpI_neg {a b : Int} : cmpI a b < 0 ↔ a < b := by unfold cmpI; split <;> (try split) <;> omega
theorem goSatisfies1 : InGo Tryz.prog 63 := InGo.of Tryz.func63 (by kernel_rfl) (by kernel_rfl)
theorem validR_spec {n : Int} {rs : List Rw} (h : validR n rs = true) : 0 ≤ n ∧ n ≤ 16 ∧ rs.length ≤ 64 ∧ ∀ r ∈ rs, (r.cs.length : Int) ≤ n ∧ (∀ y ∈ r.cs, y.natAbs ≤ 1048576) ∧ r.b.natAbs ≤ 4503599627370496 := by
  unfold validR at h
  simp only [Bool.and_eq_true, decide_eq_true_eq, Bool.not_eq_true'] at h
  obtain ⟨⟨⟨h1, h2⟩, h3⟩, h4⟩ := h
  refine ⟨h1, h2, h3, fun r hr => ?_⟩
  rw [List.any_eq_false] at h4
  have h5 : badR n r = false := by simpa using h4 r hr
  unfold badR okCoeffs at h5
  simp only [Bool.or_eq_false_iff, Bool.not_eq_false', Bool.and_eq_true, decide_eq_true_eq, decide_eq_false_iff_not, Bool.not_eq_true', List.any_eq_false] at h5
  obtain ⟨⟨⟨h6, h7⟩, h8⟩, h9⟩ := h5
  refine ⟨h6, fun y hy => ?_, by omega⟩
  have h10 : badC y = false := by simpa using h7 y hy
  unfold badC at h10
  simp only [Bool.or_eq_false_iff, decide_eq_false_iff_not] at h10
  omega
theorem goSatisfies : InGo Tryz.prog 20 := InGo.of Tryz.func20 (by kernel_rfl) (by kernel_rfl)
end Go.Proofs.YtdhmbgogmoaofaaGreat
namespace Go.Proofs.YtdhmbgogmoaofaaGreat
open Go.Own Go.Limbs Go.Det
attribute [local irreducible] St Ops Go.Own.Fin Ok OkM
theorem zvOut : (Tryz.prog.info? 46).map (·.zero) = some (some (.agg #[.int .i64 0, .bool false, .slice none 0 0, .slice none 0 0, .slice none 0 0, .slice none 0 0, .slice none 0 0])) := by kernel_rfl
theorem lOut : LdN Tryz.prog 46 7 := LdN.of _ Tryz.underlying46 rfl (by kernel_rfl)
theorem szOut : (Tryz.prog.info? 46).map (·.size) = some 7 := by kernel_rfl
theorem bOut : bInfo Tryz.prog 46 = some (.agg #[.int .i64 0, .bool false, .slice none 0 0, .slice none 0 0, .slice none 0 0, .slice none 0 0, .slice none 0 0], [(0, some 1), (1, some 3), (4, some 1), (5, some 1), (6, some 1)]) := by kernel_rfl
abbrev ocCs (O : Oc) : List CT := [intC O.kind, boolC O.value.neg, natC O.value.num, natC O.value.den, fracsC O.point, fracsC O.ray, fracsC O.dual]
abbrev ocC (O : Oc) : CT := .fr (aggT (ocCs O))
def oc0 : Oc := ⟨0, frz0, [], [], []⟩
theorem w_nat0 : ∀ S w v, (CT.ex (.slice none 0 0)).p S w v → (natC 0).p S w v := by rw [natC_zero]; exact w_nil
theorem goSolve : InGo Tryz.prog 22 := InGo.of Tryz.func22 (by kernel_rfl) (by kernel_rfl)
theorem stOut_none {T E : Tv} {art : Int} (h : stRes T E = false) : stOut T E art = E := by
  unfold stRes at h
  rw [Bool.or_eq_false_iff] at h
  have h1 := of_decide_eq_false h.1
  have h2 : E.at (T.bas.length + 1) (T.col.length + 1) < 0 := by
    have := h.2
    simpa using this
  unfold stOut
  rw [if_neg h1, if_pos h2]
theorem lp_rw {n : Nat} {rs : List Rw} {c : List Int} (h : LpOk n rs c) : (∀ r ∈ rs, OkRw n r) ∧ Okc c := by
  have big : ∀ z : Int, z.natAbs ≤ 4503599627370496 → -1152921504606846976 ≤ z ∧ z ≤ 1152921504606846976 := fun z hz => by omega
  have ok : ∀ xs : List Int, (∀ i, (xs.getD i 0).natAbs ≤ 1048576) → Okc xs := fun xs hx x hm => by
    obtain ⟨i, hi, rfl⟩ := List.getElem_of_mem hm
    have := hx i
    rw [List.getD_eq_getElem?_getD, List.getElem?_eq_getElem hi] at this
    exact big _ (Nat.le_trans this (by decide))
  exact ⟨fun r hr => ⟨h.rl r hr, ok _ (h.rb r hr), (big _ (h.bb r hr)).1, (big _ (h.bb r hr)).2⟩, ok _ h.cb⟩
theorem wh_of {T T0 : Tv} (h1 : T.rows = T0.rows) (h2 : T.bas = T0.bas) (h3 : T.col = T0.col) (h4 : T.den = T0.den) : T = T0.wh T := by
  cases T; cases T0
  simp only at h1 h2 h3 h4
  subst h1; subst h2; subst h3; subst h4
  rfl
def kpB (j : Nat) : Bool := Nat.ble 4 j && Nat.blt j 10
set_option maxHeartbeats 32000000 in
theorem Solve_ok (n : Nat) (rs : List Rw) (c : List Int) (hL : LpOk n rs c) (hv : validR n rs = true) (hc : okCoeffs n c = true) {T0 E F : Tv} {s : Int} (R : SolRun n rs c T0 E F s) : Ok Tryz.prog 22 [intC n, rowsC rs, intsC c] (.fr (tupT [ocC (ocOf n rs.length T0 E F s), intC 0])) := by
  have hn := hL.nn
  have hm := hL.mm
  have hV := LValid_ok n rs (by omega) (fun r hr => by have := hL.rl r hr; omega)
  have hC := validCoeffs_ok n c (by have := hL.cl; omega)
  rw [hv] at hV
  rw [hc] at hC
  have hB := begin_ok n rs c (by omega) (by omega) (lp_rw hL).1 (lp_rw hL).2 hL.cl
  have hGd := R.beg.view.gd (lp_sys hL) R.beg.hl (by rw [R.beg.len]; omega) (by rw [R.beg.col, rng_len]; omega)
  have hT0l := R.beg.len
  have hT0c : T0.col.length = n := by rw [R.beg.col, rng_len]
  have hT0b : T0.bas.length = rs.length := by rw [R.beg.bas, rng_len]
  refine Ok.enter Tryz.func22 rfl _ Tryz.ntmps22 rfl ?_
  intro S w
  (refine Qy (Qx fun K hK => ?_))
  refine Qd 4 rfl rfl (by with_reducible exact zvOut) rfl rfl rfl ?_
  (refine Qv rfl rfl rfl ?_; refine Qj (hK _ _ (Qz (Qy (Qy ?_)))); clear hK K; refine Qx (fun K hK => ?_); refine Qq rfl rfl rfl ?_; refine Qq rfl rfl rfl ?_)
  refine QX goLValid hV rfl rfl rfl rfl ?_
  (refine Qr rfl rfl rfl ?_; refine Qq rfl rfl rfl ?_; refine Qq rfl rfl rfl ?_; refine Qq rfl rfl rfl ?_)
  refine QX govalidCoeffs hC rfl rfl rfl rfl ?_
  (refine Qr rfl rfl rfl ?_; refine Q6 rfl rfl rfl rfl ?_; refine Qj (hK _ _ (Qz (Qs rfl (QU (Qz (Qy ?_)))))); clear hK K; refine Qx (fun K hK => ?_); refine Qq rfl rfl rfl ?_; refine Q4 rfl rfl (by with_reducible first | exact sNat.und | exact sInts.und | exact sRows.und) (List.length_map ..) rfl ?_; refine Qv rfl rfl rfl ?_; refine Qj (hK _ _ (Qz (Qy ?_))); clear hK K; refine Qx (fun K hK => ?_); refine Qq rfl rfl rfl ?_; refine Qq rfl rfl rfl ?_; refine Qq rfl rfl rfl ?_)
  refine Ops.callM [(4, _)] kpB gobegin hB rfl rfl rfl (fun gb hg => hg.elim) (fun _ => rfl) (fun j hj => ?_) (fun j hj => ?_) (fun p hp => absurd hp (by simp)) (fun q j hq => ?_) (fun T hT => ?_)
  · have hj4 : j = 4 := by
      by_cases h4 : 4 = j
      · exact h4.symm
      · rw [bget_cons_ne _ _ h4] at hj; cases hj
    subst hj4
    exact ⟨rfl, fun q => tab_none (by decide) (by decide)⟩
  · unfold kpB at hj
    rw [Bool.and_eq_true] at hj
    exact .inr fun q => tab_none (Nat.le_of_ble_eq_true hj.1) (Nat.le_of_ble_eq_true hj.2)
  · rcases hq with hq | ⟨o, hq⟩ <;> cases hq; rfl
  obtain ⟨H, rfl⟩ : ∃ H : Tv, T = T0.wh H := ⟨T, wh_of (hT.rows.trans R.beg.rows.symm) (hT.bas.trans R.beg.bas.symm) (hT.col.trans R.beg.col.symm) (hT.den.trans R.beg.den.symm)⟩
  have hHl : H.hl.length = T0.rows.length := by have := hT.hl; rw [hT0l]; exact this
  have hst := start_ok (T0.wh H) (E.wh { H with hl := H.hl ++ [default] }) ((n + rs.length : Nat) : Int) (by omega) (by omega) (hGd.fit.wh hHl) (by show T0.rows.length = T0.bas.length + 1; omega) (hGd.wh hHl).short (fun h hh => by
    obtain ⟨gb, hg⟩ := hT.lines h hh
    exact ⟨gb, by rw [hg]; show Value.slice _ (n + 1) (n + 1) = kh gb 0 (T0.col.length + 1) (T0.col.length + 1); rw [hT0c]⟩) (fun hw => by
      rw [show (T0.wh H).bas = T0.bas from rfl, wrS_wh, hT0b] at hw
      exact (R.start hw).wh H hHl) (by show T0.rows.length ≤ 90; omega) (by show T0.col.length ≤ 90; omega)
  rw [stRes_wh] at hst
  refine Ops.reB (B' := [(4, _)] ++ tabB (T0.wh H)) (fun j => tab_swap rfl _ j) ?_
  (refine Qv rfl rfl rfl ?_; refine Qj (hK _ _ (Qz (Qy (Qy ?_)))); clear hK K; refine Qx (fun K hK => ?_); refine Qq rfl rfl rfl ?_; refine Qq rfl rfl rfl ?_; refine Qq rfl rfl rfl ?_; refine Qw (iadd (by omega) (by omega)) rfl rfl rfl rfl ?_)
  rw [show (n : Int) + (rs.length : Int) = ((n + rs.length : Nat) : Int) from (Int.natCast_add ..).symm]
  refine Xu [(4, _)] gostart hst rfl rfl rfl (fun gb hg => hg.elim) rfl rfl (fun p hp => absurd hp (by simp)) (fun H1 hH1 => ?_)
  rw [stOut_wh]
  rw [stOut_rows] at hH1
  have hE := R.eg
  have hRu := R.run
  have hFr := R.fr
  have hoc : ocOf n rs.length T0 E F s = if stRes T0 E = false then ⟨3, frz0, [], [], (duS E n rs.length (rs.length + 1) E.col.length).map ofQ⟩ else if 0 ≤ s then ⟨2, frz0, (ptS F n F.bas.length).map ofQ, (raS F n s.toNat F.bas.length).map ofQ, []⟩ else ⟨1, ofQ (shq (F.at rs.length F.col.length) F.den), (ptS F n F.bas.length).map ofQ, [], (duS F n rs.length rs.length F.col.length).map ofQ⟩ := rfl
  generalize hP : stOut T0 E ((n + rs.length : Nat) : Int) = P at *
  clear hst hV hC hB hGd hT
  cases hres : stRes T0 E with
  | false =>
    rw [if_pos hres] at hoc
    obtain ⟨hGE, hEr, hEc⟩ := hE hres
    rw [stOut_none hres] at hP
    subst hP
    have hdu := dual_ok (E.wh H1) (hGE.wh hH1) n rs.length (rs.length + 1) (by omega) (by omega) (by show _ < E.rows.length; omega) hEc
    rw [duS_wh] at hdu
    (refine Qr rfl rfl rfl ?_; refine Qj (hK _ _ (Qz (Xk rfl (Qy ?_)))); clear hK K; refine Qx (fun K hK => ?_); refine Qq rfl rfl rfl ?_; refine Qq rfl rfl rfl ?_; refine Qq rfl rfl rfl ?_; refine Qq rfl rfl rfl ?_; refine Qw (iadd (by omega) (by omega)) rfl rfl rfl rfl ?_)
    refine Xu [(4, _)] godual hdu rfl rfl rfl (fun gb hg => hg.elim) rfl rfl (fun p hp => absurd hp (by simp)) (fun _ _ => ?_)
    refine Xz rfl (by with_reducible exact bOut) rfl (.one rfl rfl rfl rfl (.one rfl rfl rfl rfl .nil)) rfl ?_
    refine Qa 7 rfl rfl rfl rfl rfl (by with_reducible exact szOut) rfl rfl ?_
    (refine Qv rfl rfl rfl ?_; refine Qj (hK _ _ (Qz (Q3 (QW ?_)))); clear hK K)
    have hw : argW [.ex (.int .i64 3), .ex (.bool false), .ex (.slice none 0 0), .ex (.slice none 0 0), .ex (.slice none 0 0), .ex (.slice none 0 0), fracsC ((duS E n rs.length (rs.length + 1) E.col.length).map ofQ)] (ocCs (ocOf n rs.length T0 E F s)) := by
      rw [hoc]; exact ⟨w_same, w_same, w_nat0, w_nat0, w_nil, w_nil, w_same, trivial⟩
    refine QK [_, _] rfl (Xb (w_agg hw) (Qb rfl rfl lOut rfl (QQ rfl Qu))) rfl rfl
  | true =>
    rw [if_neg (by rw [hres]; decide)] at hoc
    obtain ⟨k, hk⟩ := hRu hres
    obtain ⟨hF1, hF2, hF3, hF4, hF5⟩ := hFr hres
    have hlen := hk.lens
    have hGF := hk.last
    have hG1 := hGF.wh (H := H1) (by rw [hH1, hlen.1])
    have hmx := maximize_ok (P.wh H1) (F.wh H1) rs.length s k (hk.wh hH1) (by show _ < P.rows.length; omega)
    (refine Qr rfl rfl rfl ?_; refine Qj (hK _ _ (Qz (Qs rfl (QU (Qz (Qy (Qy ?_))))))); clear hK K; refine Qx (fun K hK => ?_); refine Qq rfl rfl rfl ?_; refine Qq rfl rfl rfl ?_)
    refine Xu [(4, _)] gomaximize hmx rfl rfl rfl (fun gb hg => hg.elim) rfl rfl (fun p hp => absurd hp (by simp)) (fun _ _ => ?_)
    have hpt := point_ok (F.wh H1) hG1 n (by omega) hF3
    rw [ptS_wh] at hpt
    (refine Qv rfl rfl rfl ?_; refine Qj (hK _ _ (Qz (Qy ?_))); clear hK K; refine Qx (fun K hK => ?_); refine Qq rfl rfl rfl ?_; refine Qw igeq rfl rfl rfl rfl ?_; refine Qj (hK _ _ (Qz ?_)); clear hK K)
    refine Q0 rfl (fun h0 => ?_) (fun h0 => ?_)
    · rw [if_pos h0] at hoc
      obtain ⟨e, rfl⟩ : ∃ e : Nat, s = e := ⟨s.toNat, by omega⟩
      rw [Int.toNat_natCast] at hoc
      have hra := ray_ok (F.wh H1) hG1 n e (by omega) (by show e < F.col.length; omega) hF3 hF2
      rw [raS_wh] at hra
      (refine Qy (Qx fun K hK => ?_); refine Qq rfl rfl rfl ?_; refine Qq rfl rfl rfl ?_)
      refine Xu [(4, _)] gopoint hpt rfl rfl rfl (fun gb hg => hg.elim) rfl rfl (fun p hp => absurd hp (by simp)) (fun _ _ => ?_)
      (refine Qq rfl rfl rfl ?_; refine Qq rfl rfl rfl ?_; refine Qq rfl rfl rfl ?_)
      refine Xu [(4, _)] goray hra rfl rfl rfl (fun gb hg => hg.elim) rfl rfl (fun p hp => absurd hp (by simp)) (fun _ _ => ?_)
      refine Xz rfl (by with_reducible exact bOut) rfl (.one rfl rfl rfl rfl (.one rfl rfl rfl rfl (.one rfl rfl rfl rfl .nil))) rfl ?_
      refine Qa 7 rfl rfl rfl rfl rfl (by with_reducible exact szOut) rfl rfl ?_
      (refine Qv rfl rfl rfl ?_; refine Qj (hK _ _ (Qz (Q3 (QW ?_)))); clear hK K)
      have hw : argW [.ex (.int .i64 2), .ex (.bool false), .ex (.slice none 0 0), .ex (.slice none 0 0), fracsC ((ptS F n F.bas.length).map ofQ), fracsC ((raS F n e F.bas.length).map ofQ), .ex (.slice none 0 0)] (ocCs (ocOf n rs.length T0 E F e)) := by
        rw [hoc]; exact ⟨w_same, w_same, w_nat0, w_nat0, w_same, w_same, w_nil, trivial⟩
      refine QK [_, _] rfl (Xb (w_agg hw) (Qb rfl rfl lOut rfl (QQ rfl Qu))) rfl rfl
    · rw [if_neg h0] at hoc
      have hdu := dual_ok (F.wh H1) hG1 n rs.length rs.length (by omega) (by omega) (by show _ < F.rows.length; omega) hF2
      rw [duS_wh] at hdu
      have ssh := hGF.short rs.length F.col.length
      have hsh := share_ok (F.wh H1) (F.at rs.length F.col.length) (by omega) hG1.den (Nat.le_trans hG1.dens (by decide))
      have km : (rs.length : Int).toNat * 1 = rs.length := by omega
      have kc : (F.col.length : Int).toNat * 2 = F.col.length * 2 := by omega
      have hrow := hGF.fit.row rs.length (by omega)
      have hthin := hGF.fit.thin
      (refine QU (Qz (Qy ?_)))
      refine St.drawL (by with_reducible exact mixed) [15, 18, 23, 25] (.p 0 (.p 1 (.p 2 (.p 3 (.p 5 (.p 8 (.p 9 (.p 10 (.p 16 (.p 17 (.p 19 (.p 20 (.p 21 (.p 22 (.f 4 (.p 6 (.f 7 (.f 11 (.p 12 (.p 13 (.f 14 (.a 15 (.a 18 (.a 23 (.p 24 (.a 25 (.p 26 .done))))))))))))))))))))))))))) (by kernel_rfl) (fun K hK => ?_)
      (refine Qq rfl rfl rfl ?_; refine Qq rfl rfl rfl ?_; refine Q1 rfl rfl rfl rfl ?_; refine QV rfl rfl rfl (by with_reducible first | exact fW0 | exact fW1 | exact fT0 | exact fT1 | exact fT2 | exact fT3 | exact fR0 | exact fR1) rfl ?_; refine Qq rfl rfl rfl ?_; refine Qq rfl rfl rfl ?_; refine Q1 rfl rfl rfl rfl ?_; refine QV rfl rfl rfl (by with_reducible first | exact fW0 | exact fW1 | exact fT0 | exact fT1 | exact fT2 | exact fT3 | exact fR0 | exact fR1) rfl ?_; refine Qq rfl rfl rfl ?_; refine Qq rfl rfl rfl ?_; refine Qq rfl rfl rfl ?_; refine Qq rfl rfl rfl ?_; refine Qq rfl rfl rfl ?_; refine Qq rfl rfl rfl ?_; refine QJ rfl rfl rfl rfl rfl (by with_reducible first | exact lInt | exact lNat | exact lBool | exact lInts | exact lMat | exact lWhs) rfl ?_)
      refine Qi 1 (rs.length + 1) rfl rfl rfl (by rw [List.length_map]; show H1.hl.length = _; rw [hH1, ← hlen.1]; omega) rfl sMat (by omega) (by omega) rfl ?_
      rw [km]
      refine QJ rfl rfl rfl rfl (hl_get (by show _ < H1.hl.length; rw [hH1, ← hlen.1]; omega)) lWhs rfl ?_
      (refine QJ rfl rfl rfl rfl rfl (by with_reducible first | exact lInt | exact lNat | exact lBool | exact lInts | exact lMat | exact lWhs) rfl ?_)
      refine X1 3 F.col.length rfl rfl rfl (by decide) (by show (ints F.col).length = _; simp) sInts.und rfl ?_
      refine Qi (rs.length + 10) (F.col.length + 1) rfl rfl (lines_get (by show _ < H1.hl.length; rw [hH1, ← hlen.1]; omega) (by show _ < F.rows.length; omega)) (by rw [whs_len]; show (F.rows.getD rs.length []).length * 2 = _; rw [hrow]) rfl sWhs (by omega) (by omega) rfl ?_
      rw [kc]
      refine ldWh rfl rfl rfl (lines_get (by show _ < H1.hl.length; rw [hH1, ← hlen.1]; omega) (by show _ < F.rows.length; omega)) rfl (by show _ < (F.rows.getD rs.length []).length; omega) lWh rfl ?_
      refine Xu [(4, _)] goshare hsh rfl rfl rfl (fun gb hg => hg.elim) rfl rfl (fun p hp => absurd hp (by simp)) (fun _ _ => ?_)
      refine Xu [(4, _)] gopoint hpt rfl rfl rfl (fun gb hg => hg.elim) rfl rfl (fun p hp => absurd hp (by simp)) (fun _ _ => ?_)
      refine Xu [(4, _)] godual hdu rfl rfl rfl (fun gb hg => hg.elim) rfl rfl (fun p hp => absurd hp (by simp)) (fun _ _ => ?_)
      refine Xz rfl (by with_reducible exact bOut) rfl (.one rfl rfl rfl rfl (.agg rfl rfl rfl rfl (.one rfl rfl rfl rfl (.one rfl rfl rfl rfl .nil)))) rfl ?_
      refine Qa 7 rfl rfl rfl rfl rfl (by with_reducible exact szOut) rfl rfl ?_
      (refine Qv rfl rfl rfl ?_; refine Qj (hK _ _ (Qz (Q3 ?_))); clear hK K)
      have hw : argW ([.ex (.int .i64 1)] ++ frCs (ofQ (shq (F.at rs.length F.col.length) F.den)) ++ [fracsC ((ptS F n F.bas.length).map ofQ), .ex (.slice none 0 0), fracsC ((duS F n rs.length rs.length F.col.length).map ofQ)]) (ocCs (ocOf n rs.length T0 E F s)) := by
        rw [hoc]; exact ⟨w_same, w_same, w_same, w_same, w_same, w_nil, w_same, trivial⟩
      refine QK [_, _] rfl (Xb (w_agg hw) (Qb rfl rfl lOut rfl (QQ rfl Qu))) rfl rfl
end Go.Proofs.YtdhmbgogmoaofaaGreat
namespace Go.Proofs.YtdhmbgogmoaofaaGreat
open Go.Own Go.Limbs
attribute [local irreducible] St Ops Go.Own.Fin Ok OkM
theorem fO0 : fldInfo Tryz.prog 46 0 = some (0, some 1) := by kernel_rfl
theorem fO1 : fldInfo Tryz.prog 46 1 = some (1, some 3) := by kernel_rfl
theorem fO2 : fldInfo Tryz.prog 46 2 = some (4, some 1) := by kernel_rfl
theorem fO3 : fldInfo Tryz.prog 46 3 = some (5, some 1) := by kernel_rfl
theorem fO4 : fldInfo Tryz.prog 46 4 = some (6, some 1) := by kernel_rfl
theorem goMaximum : InGo Tryz.prog 26 := InGo.of Tryz.func26 (by kernel_rfl) (by kernel_rfl)
set_option maxHeartbeats 8000000 in
theorem Maximum_of (n : Int) (rs : List Rw) (c : List Int) (O : Oc) (e : Int) (hS : Ok Tryz.prog 22 [intC n, rowsC rs, intsC c] (.fr (tupT [ocC O, intC e]))) :
    Ok Tryz.prog 26 [intC n, rowsC rs, intsC c] (.fr (tupT [fracC O.value, boolC (decide (O.kind = 1)), intC e])) := by
  refine Ok.enter Tryz.func26 rfl _ Tryz.ntmps26 rfl ?_
  intro S w
  (refine Qy (Qx fun K hK => ?_))
  refine Qd 0 rfl rfl (by with_reducible exact zvFrac) rfl rfl rfl ?_
  (refine Qv rfl rfl rfl ?_; refine Qv rfl rfl rfl ?_; refine Qj (hK _ _ (Qz (Qy ?_))); clear hK K; refine Qx (fun K hK => ?_); refine Qq rfl rfl rfl ?_; refine Qq rfl rfl rfl ?_; refine Qq rfl rfl rfl ?_)
  refine QX goSolve hS rfl rfl rfl rfl ?_
  (refine Qq rfl rfl rfl ?_; refine QY rfl rfl rfl rfl ?_; refine QY rfl rfl rfl rfl ?_)
  refine Qd 1 rfl rfl (by with_reducible exact zvOut) rfl rfl rfl ?_
  refine Qa 7 rfl rfl rfl rfl rfl (by with_reducible exact szOut) rfl rfl ?_
  (refine Qv rfl rfl rfl ?_; refine Qj (hK _ _ (Qz (Qy ?_))); clear hK K)
  refine St.drawQ (by with_reducible exact mixed) [6] (.p 0 (.f 1 (.p 2 (.p 5 (.m 3 (.p 4 (.a 6 (.p 7 (.p 8 .done)) .non)) (.a 6 (.m 3 (.p 4 (.p 7 (.p 8 .done))) .non) .non)))))) (by kernel_rfl) (fun K hK => ?_)
  refine (fun (cont : Go.Own.Fin _ [(6, .own 0), (7, .ct (boolC (decide (O.kind = 1)))), (8, .ct (intC e))] [(1, .box 46 (ocCs O)), (0, .box 38 (frCs O.value))] K) => ?_) (hK _ _ ?_)
  rotate_left
  · clear hK K
    (refine Qz (Q3 ?_))
    refine QK [_, _, _] rfl (Qb rfl rfl lFrac rfl (QQ rfl (QQ rfl Qu))) rfl rfl
  clear hK
  refine Qo (QV rfl rfl rfl (by with_reducible exact fO1) rfl (Qj ?_))
  refine Fin.qf (X7 (n := 3) rfl rfl rfl rfl (Nat.le_of_ble_eq_true rfl) (by with_reducible exact lFrac) rfl (Qj ?_))
  refine Qo (QV rfl rfl rfl (by with_reducible exact fO0) rfl (Qj ?_))
  refine Qo (Qq rfl rfl rfl (Qj ?_))
  refine XK ?_ ?_
  · refine QJ rfl rfl rfl rfl rfl (by with_reducible exact lInt) rfl (Qj ?_)
    refine Qo (Qw ieql rfl rfl rfl rfl (Qj ?_))
    refine Xj (Qa 3 rfl rfl rfl rfl rfl (by with_reducible exact szFrac) rfl rfl (Qj ?_)) Qc
    refine Qo (Qv rfl rfl rfl (Qj ?_))
    refine Qo (Qv rfl rfl rfl (Qj ?_))
    exact XZ (X2 cont ⟨rfl, rfl, rfl, trivial⟩)
  · refine Xj (Qa 3 rfl rfl rfl rfl rfl (by with_reducible exact szFrac) rfl rfl (Qj ?_)) Qc
    refine XK ?_ Qc
    refine QJ rfl rfl rfl rfl rfl (by with_reducible exact lInt) rfl (Qj ?_)
    refine Qo (Qw ieql rfl rfl rfl rfl (Qj ?_))
    refine Qo (Qv rfl rfl rfl (Qj ?_))
    refine Qo (Qv rfl rfl rfl (Qj ?_))
    exact XZ (X2 cont ⟨rfl, rfl, rfl, trivial⟩)
theorem goFeasible : InGo Tryz.prog 34 := InGo.of Tryz.func34 (by kernel_rfl) (by kernel_rfl)
set_option maxHeartbeats 8000000 in
theorem Feasible_of (n : Int) (rs : List Rw) (O : Oc) (e : Int) (hS : Ok Tryz.prog 22 [intC n, rowsC rs, intsC []] (.fr (tupT [ocC O, intC e]))) :
    Ok Tryz.prog 34 [intC n, rowsC rs] (.fr (tupT [boolC (decide (e = 0) && decide (O.kind ≠ 3)), intC e])) := by
  have hS' := hS.weak (As' := [intC n, rowsC rs, .ex (.slice none 0 0)]) ⟨w_same, w_same, w_nil, trivial⟩
  refine Ok.enter Tryz.func34 rfl _ Tryz.ntmps34 rfl ?_
  intro S w
  (refine Qy (Qx fun K hK => ?_); refine Qv rfl rfl rfl ?_; refine Qv rfl rfl rfl ?_; refine Qj (hK _ _ (Qz (Qy ?_))); clear hK K; refine Qx (fun K hK => ?_); refine Qq rfl rfl rfl ?_; refine Qq rfl rfl rfl ?_)
  refine QX goSolve hS' rfl rfl rfl rfl ?_
  (refine Qq rfl rfl rfl ?_; refine QY rfl rfl rfl rfl ?_; refine QY rfl rfl rfl rfl ?_)
  refine Qd 1 rfl rfl (by with_reducible exact zvOut) rfl rfl rfl ?_
  refine Qa 7 rfl rfl rfl rfl rfl (by with_reducible exact szOut) rfl rfl ?_
  (refine Qv rfl rfl rfl ?_; refine Qj (hK _ _ (Qz (Qy ?_))); clear hK K; refine Qx (fun K hK => ?_); refine Qq rfl rfl rfl ?_; refine Qw ieql rfl rfl rfl rfl ?_; refine Qq rfl rfl rfl ?_)
  by_cases he : e = 0
  · subst he
    skip
    refine QV rfl rfl rfl (by with_reducible exact fO0) rfl ?_
    (refine QJ rfl rfl rfl rfl rfl (by with_reducible first | exact lInt | exact lNat | exact lBool | exact lInts | exact lMat | exact lWhs) rfl ?_; refine Qw ineq rfl rfl rfl rfl ?_; refine Q7 rfl rfl rfl rfl ?_; refine Qq rfl rfl rfl ?_; refine Qv rfl rfl rfl ?_; refine Qv rfl rfl rfl ?_; refine Qj (hK _ _ (Qz (Q3 ?_))); clear hK K)
    refine QK [_, _] rfl (QQ rfl (QQ rfl Qu)) rfl rfl
  · refine Qg 16 rfl (fun h => absurd h he) (fun h => ?_)
    (refine Qk rfl rfl rfl ?_; refine Qk rfl rfl rfl ?_; refine Qk rfl rfl rfl ?_; refine Q6 rfl rfl rfl rfl ?_; refine Qq rfl rfl rfl ?_; refine Qv rfl rfl rfl ?_; refine Qv rfl rfl rfl ?_; refine Qj (hK _ _ (Qz (Q3 ?_))); clear hK K)
    refine QK [_, _] rfl (QQ rfl (QQ rfl Qu)) (by rw [decide_eq_false he]; rfl) rfl
end Go.Proofs.YtdhmbgogmoaofaaGreat
namespace Go.Own
variable {X : Ctx} {L : AL} {B : BL} {ops : Array Oper} {K : Act → World → Prop} {r : Pl} {k : Kd}
  {x y z : Operand} {d : Nat} {t t2 t' : TypeId} {pos : String} {af : Array Edge} {g : Option (Nat × Bool)}
def wneg (p : Int) : Int := IntKind.i64.wrap (-p)
end Go.Own
namespace Go.Proofs.YtdhmbgogmoaofaaGreat
open Go.Own Go.Limbs
attribute [local irreducible] St Ops Go.Own.Fin Ok OkM
def ngP (c : List Int) (i : Nat) : List Int := (List.range c.length).map fun j => if j < i then wneg (c.getD j 0) else 0
def vneg (f : Fr) : Fr := ⟨if f.num = 0 then f.neg else !f.neg, f.num, f.den⟩
end Go.Proofs.YtdhmbgogmoaofaaGreat
namespace Go.Proofs.YtdhmbgogmoaofaaGreat
open Go.Own Go.Limbs
attribute [local irreducible] St Ops Go.Own.Fin Ok OkM
set_option maxHeartbeats 4000000 in
theorem FAdd_fine (f h : Fr) (h1 : (limbs f.num).length + (limbs h.den).length ≤ 63) (h3 : (limbs h.num).length + (limbs f.den).length ≤ 63) (hs2 : (limbs f.den).length + (limbs h.den).length ≤ 64) (d1 : 0 < f.den) (d2 : 0 < h.den) :
    Ok Tryz.prog 60 [fracC f, fracC h] (.fr (tupT [ratC (qv f + qv h), intC 0])) := by
  have hp := Nat.mul_pos d1 d2
  have l1 : (limbs (f.num * h.den)).length ≤ 63 := Nat.le_trans limbs_mul_len h1
  have l2 : (limbs (h.num * f.den)).length ≤ 63 := Nat.le_trans limbs_mul_len h3
  have l3 := sumN_len (n1 := f.neg) (n2 := h.neg) l1 l2
  have l8 := limbs_mul_len (a := f.den) (b := h.den)
  have l4 := redF_den (sumS f.neg (f.num * h.den) h.neg (h.num * f.den)) (sumN f.neg (f.num * h.den) h.neg (h.num * f.den)) _ hp
  have l5 := redF_neg (sumS f.neg (f.num * h.den) h.neg (h.num * f.den)) (sumN f.neg (f.num * h.den) h.neg (h.num * f.den)) (f.den * h.den)
  have l6 : (limbs (redF (sumS f.neg (f.num * h.den) h.neg (h.num * f.den)) (sumN f.neg (f.num * h.den) h.neg (h.num * f.den)) (f.den * h.den)).num).length ≤ 64 := div_len l3
  have l7 := limbs_len_mono l4.2
  have hr := reduced_ok (sumS f.neg (f.num * h.den) h.neg (h.num * f.den)) (sumN f.neg (f.num * h.den) h.neg (h.num * f.den)) _ hp (by omega) (by omega)
  show Ok Tryz.prog 60 [fracC f, fracC h] (.fr (tupT [fracC (ofQ (qv f + qv h)), intC 0]))
  rw [← redF_add f h d1 d2]
  refine Ok.enter Tryz.func60 rfl _ Tryz.ntmps60 rfl ?_
  intro S w
  generalize redF (sumS f.neg (f.num * h.den) h.neg (h.num * f.den)) (sumN f.neg (f.num * h.den) h.neg (h.num * f.den)) (f.den * h.den) = rr at *
  (refine Qy (Qx fun K hK => ?_); refine Qt 0 rfl rfl rfl rfl rfl rfl rfl ?_; refine Qt 1 rfl rfl rfl rfl rfl rfl rfl ?_; refine Qd 2 rfl rfl (by with_reducible first | exact zvFrac) rfl rfl rfl ?_; refine Qv rfl rfl rfl ?_; refine Qj (hK _ _ (Qz (Qy ?_))); clear hK K)
  refine Xq (by with_reducible exact mixed) 20 (.p 0 (.p 2 (.p 4 (.p 7 (.p 9 (.p 11 (.f 1 (.f 3 (.f 5 (.f 8 (.f 10 (.f 12 (.m 6 (.m 13 (.m 14 (.p 15 (.p 16 (.p 17 (.p 18 (.p 19 .done)))))))))))))))))))) (by kernel_rfl) (fun K hK => ?_)
  (refine QV rfl rfl rfl (by with_reducible first | exact fF0 | exact fF1 | exact fF2 | exact fR0 | exact fR1) rfl ?_; refine QV rfl rfl rfl (by with_reducible first | exact fF0 | exact fF1 | exact fF2 | exact fR0 | exact fR1) rfl ?_; refine QV rfl rfl rfl (by with_reducible first | exact fF0 | exact fF1 | exact fF2 | exact fR0 | exact fR1) rfl ?_; refine QV rfl rfl rfl (by with_reducible first | exact fF0 | exact fF1 | exact fF2 | exact fR0 | exact fR1) rfl ?_; refine QV rfl rfl rfl (by with_reducible first | exact fF0 | exact fF1 | exact fF2 | exact fR0 | exact fR1) rfl ?_; refine QV rfl rfl rfl (by with_reducible first | exact fF0 | exact fF1 | exact fF2 | exact fR0 | exact fR1) rfl ?_; refine QJ rfl rfl rfl rfl rfl (by with_reducible first | exact lInt | exact lNat | exact lBool | exact lInts) rfl ?_; refine QJ rfl rfl rfl rfl rfl (by with_reducible first | exact lInt | exact lNat | exact lBool | exact lInts) rfl ?_; refine QJ rfl rfl rfl rfl rfl (by with_reducible first | exact lInt | exact lNat | exact lBool | exact lInts) rfl ?_; refine QJ rfl rfl rfl rfl rfl (by with_reducible first | exact lInt | exact lNat | exact lBool | exact lInts) rfl ?_; refine QJ rfl rfl rfl rfl rfl (by with_reducible first | exact lInt | exact lNat | exact lBool | exact lInts) rfl ?_; refine QJ rfl rfl rfl rfl rfl (by with_reducible first | exact lInt | exact lNat | exact lBool | exact lInts) rfl ?_)
  refine QX goproduct (product_ok f.num h.den (by omega)) rfl rfl rfl rfl ?_
  skip
  refine QX goproduct (product_ok h.num f.den (by omega)) rfl rfl rfl rfl ?_
  skip
  refine QX gosum (sum_ok _ _ _ _ (by omega) (by omega)) rfl rfl rfl rfl ?_
  (refine Qq rfl rfl rfl ?_; refine QY rfl rfl rfl rfl ?_; refine QY rfl rfl rfl rfl ?_; refine Qv rfl rfl rfl ?_; refine Qv rfl rfl rfl ?_; refine Qj (hK _ _ (Qz (Qy ?_))); clear hK K; refine Qx (fun K hK => ?_); refine Qq rfl rfl rfl ?_; refine Qq rfl rfl rfl ?_; refine QV rfl rfl rfl (by with_reducible first | exact fF0 | exact fF1 | exact fF2 | exact fR0 | exact fR1) rfl ?_; refine QJ rfl rfl rfl rfl rfl (by with_reducible first | exact lInt | exact lNat | exact lBool | exact lInts) rfl ?_; refine QV rfl rfl rfl (by with_reducible first | exact fF0 | exact fF1 | exact fF2 | exact fR0 | exact fR1) rfl ?_; refine QJ rfl rfl rfl rfl rfl (by with_reducible first | exact lInt | exact lNat | exact lBool | exact lInts) rfl ?_)
  refine QX goproduct (product_ok f.den h.den (by omega)) rfl rfl rfl rfl ?_
  skip
  refine QX goreduced hr rfl rfl rfl rfl ?_
  refine QX gochecked (checked_ok rr (by omega) (by omega) l4.1 l5) rfl rfl rfl rfl ?_
  (refine QY rfl rfl rfl rfl ?_; refine QY rfl rfl rfl rfl ?_; refine Qa 3 rfl rfl rfl rfl rfl (by with_reducible exact szFrac) rfl rfl ?_; refine Qv rfl rfl rfl ?_; refine Qj (hK _ _ (Qz (Q3 ?_))); clear hK K)
  refine QK [_, _] rfl (Qb (n := 3) rfl rfl (by with_reducible exact lFrac) rfl (QQ rfl Qu)) rfl rfl
def psum (c : List Int) (xs : List Fr) : Nat → Rat
  | 0 => 0
  | k + 1 => psum c xs k + (c.getD k 0 : Rat) * qv (xs.getD k fr0)
def vsum (c : List Int) (xs : List Fr) : Rat := psum c xs (min c.length xs.length)
structure VFit (c : List Int) (xs : List Fr) : Prop where
  cl : c.length ≤ 1000
  xl : xs.length ≤ 1000
  cb : ∀ i, -9223372036854775808 ≤ c.getD i 0 ∧ c.getD i 0 ≤ 9223372036854775807
  den : ∀ k, k < min c.length xs.length → 0 < (xs.getD k fr0).den
  mn : ∀ k, k < min c.length xs.length → (limbs (ofQ (c.getD k 0 : Rat)).num).length + (limbs (xs.getD k fr0).num).length ≤ 64
  md : ∀ k, k < min c.length xs.length → 1 + (limbs (xs.getD k fr0).den).length ≤ 64
  a1 : ∀ k, k < min c.length xs.length → (limbs (ofQ (psum c xs k)).num).length + (limbs (ofQ ((c.getD k 0 : Rat) * qv (xs.getD k fr0))).den).length ≤ 63
  a2 : ∀ k, k < min c.length xs.length → (limbs (ofQ ((c.getD k 0 : Rat) * qv (xs.getD k fr0))).num).length + (limbs (ofQ (psum c xs k)).den).length ≤ 63
  a3 : ∀ k, k < min c.length xs.length → (limbs (ofQ (psum c xs k)).den).length + (limbs (ofQ ((c.getD k 0 : Rat) * qv (xs.getD k fr0))).den).length ≤ 64
theorem divInt_one (n : Int) : Rat.divInt n 1 = (n : Rat) := Rat.num_divInt_den (n : Rat)
theorem ofQ_den (q : Rat) : 0 < (ofQ q).den := q.den_pos
theorem ofQ_int_den (n : Int) : (ofQ (n : Rat)).den = 1 := rfl
theorem From_int (n : Int) (h1 : -9223372036854775808 ≤ n) (h2 : n ≤ 9223372036854775807) : Ok Tryz.prog 58 [intC n, intC 1] (.fr (tupT [ratC (n : Rat), intC 0])) := by
  have := FFrom_ok n 1 h1 h2 (by decide) (by decide) (by decide)
  rw [divInt_one] at this; exact this
set_option maxHeartbeats 8000000 in
theorem Value_gen (c : List Int) (xs : List Fr) (H : VFit c xs) : Ok Tryz.prog 17 [intsC c, fracsC xs] (.fr (tupT [ratC (vsum c xs), intC 0])) := by
  have hcl := H.cl
  have hxl := H.xl
  refine Ok.enter Tryz.func17 rfl _ Tryz.ntmps17 rfl ?_
  intro S w
  (refine Qy (Qx fun K hK => ?_); refine Qd 0 rfl rfl (by with_reducible first | exact zvFrac) rfl rfl rfl ?_; refine Qv rfl rfl rfl ?_; refine Qj (hK _ _ (Qz (Qy ?_))); clear hK K; refine Qx (fun K hK => ?_))
  refine QX goFFrom (From_int 0 (by decide) (by decide)) rfl rfl rfl rfl ?_
  (refine Qq rfl rfl rfl ?_; refine QY rfl rfl rfl rfl ?_; refine QY rfl rfl rfl rfl ?_; refine Qd 1 rfl rfl (by with_reducible first | exact zvFrac) rfl rfl rfl ?_; refine Qa 3 rfl rfl rfl rfl rfl (by with_reducible exact szFrac) rfl rfl ?_; refine Qv rfl rfl rfl ?_; refine Qj (hK _ _ (Qz (Qy (Qy ?_)))); clear hK K; refine Qx (fun K hK => ?_); refine Qq rfl rfl rfl ?_; refine Q4 rfl rfl (by with_reducible first | exact sNat.und | exact sInts.und) (List.length_map ..) rfl ?_; refine Qq rfl rfl rfl ?_; refine Q4 rfl rfl (by with_reducible first | exact sFracs.und | exact sRows.und) (List.length_map ..) rfl ?_; refine Ops.min2 rfl rfl rfl rfl ?_; refine Qq rfl rfl rfl ?_; refine Qj (hK _ _ (Qz (Q2 ?_))); clear hK K)
  refine Ql (α := Nat) (fun i => i ≤ min c.length xs.length)
    (fun i => [(0, .ct (intsC c)), (1, .ct (fracsC xs)), (4, .own 0), (6, .own 1), (19, .ct (intC (min (c.length : Int) xs.length))), (20, .ct (intC i))])
    (fun i => [(1, .box 38 (frCs (ofQ (psum c xs i)))), (0, .box 38 [.ex (.bool false), .ex (.slice none 0 0), .ex (.slice none 0 0)])]) (fun i => min c.length xs.length - i) 0 (Nat.zero_le _) (by exact QZ rfl ⟨rfl, rfl, rfl, rfl, rfl, rfl, trivial⟩) ?_
  intro i hi
  (try dsimp only at hi ⊢)
  have es : psum c xs (i + 1) = psum c xs i + (c.getD i 0 : Rat) * qv (xs.getD i fr0) := rfl
  (refine Qy (Qx fun K hK => ?_); refine Qw ilss rfl rfl rfl rfl ?_; refine Qj (hK _ _ (Qz (Qy ?_))); clear hK K)
  refine Q0 rfl (fun h => ?_) (fun h => ?_)
  · have e2 : (i : Int).toNat = i := Int.toNat_natCast i
    have hi2 : i < min c.length xs.length := by omega
    have hcb := H.cb i
    have hM := FMul_gen (ofQ (c.getD i 0 : Rat)) (xs.getD i fr0) (H.mn i hi2) (by rw [ofQ_int_den]; have := H.md i hi2; have e : (limbs 1).length ≤ 1 := limbs_length_le (by decide); omega) (ofQ_den _) (H.den i hi2)
    rw [qv_ofQ] at hM
    have hA := FAdd_fine (ofQ (psum c xs i)) (ofQ ((c.getD i 0 : Rat) * qv (xs.getD i fr0))) (H.a1 i hi2) (H.a2 i hi2) (H.a3 i hi2) (ofQ_den _) (ofQ_den _)
    rw [qv_ofQ, qv_ofQ, ← es] at hA
    (refine QU (Qz (Qy (Q2 (Qy (Qx fun K hK => ?_))))); refine Qq rfl rfl rfl ?_; refine Qv rfl rfl rfl ?_; refine Qj (hK _ _ (Qz (Qy ?_))); clear hK K; refine Qx (fun K hK => ?_); refine Qq rfl rfl rfl ?_; refine Qq rfl rfl rfl ?_; refine Qf rfl rfl rfl (by with_reducible first | exact sNat | exact sInts) (by omega) (ints_at (by omega) (by omega)) rfl ?_; refine Qm rfl rfl rfl (by with_reducible first | exact lInt | exact lNat | exact lBool | exact lInts) rfl ?_)
    rw [e2]
    refine QX goFFrom (From_int (c.getD i 0) (by omega) (by omega)) rfl rfl rfl rfl ?_
    (refine Qq rfl rfl rfl ?_; refine QY rfl rfl rfl rfl ?_; refine QY rfl rfl rfl rfl ?_; refine Qd 2 rfl rfl (by with_reducible first | exact zvFrac) rfl rfl rfl ?_; refine Qa 3 rfl rfl rfl rfl rfl (by with_reducible exact szFrac) rfl rfl ?_; refine Qv rfl rfl rfl ?_; refine Qj (hK _ _ (Qz (Qy (Qy ?_)))); clear hK K; refine Qx (fun K hK => ?_); refine Qq rfl rfl rfl ?_; refine Qw ieql rfl rfl rfl rfl ?_; refine Qj (hK _ _ (Qz (Xk rfl ?_))); clear hK K)
    refine Xq (by with_reducible exact mixed) 9 (.p 1 (.p 2 (.p 3 (.f 0 (.f 4 (.m 5 (.p 6 (.p 7 (.p 8 (.a 9 (.p 10 .done))))))))))) (by kernel_rfl) (fun K hK => ?_)
    (refine Qq rfl rfl rfl ?_; refine Qq rfl rfl rfl ?_; refine Qf rfl rfl rfl (by with_reducible exact sFracs) (by omega) (fracs_at (by omega) (by omega)) rfl ?_; refine Qp (n := 3) rfl rfl rfl rfl rfl (by with_reducible exact lFrac) rfl ?_; refine X8 (n := 3) rfl rfl rfl (by with_reducible exact lFrac) rfl rfl ?_)
    rw [e2]
    skip
    refine QX goFMul hM rfl rfl rfl rfl ?_
    (refine Qq rfl rfl rfl ?_; refine QY rfl rfl rfl rfl ?_; refine QY rfl rfl rfl rfl ?_; refine Qa 3 rfl rfl rfl rfl rfl (by with_reducible exact szFrac) rfl rfl ?_; refine Qv rfl rfl rfl ?_; refine Qj (hK _ _ (Qz (Qy (Qy ?_)))); clear hK K; refine Qx (fun K hK => ?_); refine Qq rfl rfl rfl ?_; refine Qw ieql rfl rfl rfl rfl ?_; refine Qj (hK _ _ (Qz (Xk rfl ?_))); clear hK K; refine Qx (fun K hK => ?_); refine Qp (n := 3) rfl rfl rfl rfl rfl (by with_reducible exact lFrac) rfl ?_; refine Qp (n := 3) rfl rfl rfl rfl rfl (by with_reducible exact lFrac) rfl ?_)
    refine QX goFAdd hA rfl rfl rfl rfl ?_
    (refine Qq rfl rfl rfl ?_; refine QY rfl rfl rfl rfl ?_; refine QY rfl rfl rfl rfl ?_; refine Qa 3 rfl rfl rfl rfl rfl (by with_reducible exact szFrac) rfl rfl ?_; refine Qv rfl rfl rfl ?_; refine Qj (hK _ _ (Qz (Qy ?_))); clear hK K; refine Qx (fun K hK => ?_); refine Qq rfl rfl rfl ?_; refine Qw ineq rfl rfl rfl rfl ?_; refine Qj (hK _ _ (Qz (Qs rfl (QU (Qz ?_))))); clear hK K; refine Qx (fun K hK => ?_); refine Qw (iadd (by omega) (by omega)) rfl rfl rfl rfl ?_; refine Qq rfl rfl rfl ?_; refine Qj (hK _ _ (Q5 ?_)); clear hK K)
    refine XY 2 ?_
    refine Q8 (i + 1) (by omega) (by omega) (by exact QZ rfl ⟨rfl, rfl, rfl, rfl, rfl, by simp only [Int.natCast_add]; rfl, trivial⟩)
  · have hi' : i = min c.length xs.length := by omega
    (refine Qe (Qz (Qy (Qx fun K hK => ?_))); refine Qp (n := 3) rfl rfl rfl rfl rfl (by with_reducible exact lFrac) rfl ?_; refine Qa 3 rfl rfl rfl rfl rfl (by with_reducible exact szFrac) rfl rfl ?_; refine Qv rfl rfl rfl ?_; refine Qj (hK _ _ (Qz (Q3 ?_))); clear hK K)
    refine QK [_, _] rfl (Qb (n := 3) rfl rfl (by with_reducible exact lFrac) rfl (QQ rfl Qu)) (by unfold vsum; rw [hi']; rfl) rfl
end Go.Proofs.YtdhmbgogmoaofaaGreat
namespace Go.Proofs.YtdhmbgogmoaofaaGreat
open Go.Own Go.Limbs
attribute [local irreducible] St Ops Go.Own.Fin Ok OkM
def cmpQ (p q : Rat) : Int := (p.num * q.den - q.num * p.den).sign
theorem sg_sign (n : Bool) (a : Nat) : (sg n a).sign = if a = 0 then 0 else if n then -1 else 1 := by
  unfold sg
  by_cases h : a = 0
  · rw [if_pos h, h]; cases n <;> rfl
  · rw [if_neg h]
    cases n with
    | true => rw [if_pos rfl, if_pos rfl]; exact Int.sign_eq_neg_one_of_neg (by omega)
    | false => rw [if_neg (by decide), if_neg (by decide)]; exact Int.sign_eq_one_of_pos (by omega)
theorem sg_not (n : Bool) (a : Nat) : sg (!n) a = -sg n a := by cases n <;> simp [sg]
theorem FCompare_q (p q : Rat) (h1 : (limbs (ofQ p).num).length ≤ 90) (h2 : (limbs (ofQ p).den).length ≤ 90) (h3 : (limbs (ofQ q).num).length ≤ 90) (h4 : (limbs (ofQ q).den).length ≤ 90) : Ok Tryz.prog 65 [ratC p, ratC q] (.fr (tupT [intC (cmpQ p q), intC 0])) := by
  have h := FCompare_gen (ofQ p) (ofQ q) h1 h2 h3 h4
  have e : cmpQ p q = if sumN (ofQ p).neg ((ofQ p).num * (ofQ q).den) (!(ofQ q).neg) ((ofQ q).num * (ofQ p).den) = 0 then 0 else if sumS (ofQ p).neg ((ofQ p).num * (ofQ q).den) (!(ofQ q).neg) ((ofQ q).num * (ofQ p).den) then -1 else 1 := by
    have e1 := sum_sg (ofQ p).neg ((ofQ p).num * (ofQ q).den) (!(ofQ q).neg) ((ofQ q).num * (ofQ p).den)
    rw [← sg_sign, e1, sg_not, sg_mul, sg_mul, ofQ_sg, ofQ_sg]
    unfold cmpQ
    congr 1
  rw [e]; exact h
structure VF (f : Fr) : Prop where
  num : (limbs f.num).length ≤ 64
  den : (limbs f.den).length ≤ 64
  pos : 0 < f.den
  neg : f.neg = true → f.num ≠ 0
theorem VF.list {f : Fr} (h : VF f) : fvalidL f.neg (limbs f.num) (limbs f.den) = true := by
  unfold fvalidL
  have h3 := limbs_len_pos (n := f.den)
  have h4 := limbs_len_pos (n := f.num)
  have h1 := h.num
  have h2 := h.den
  have hp := h.pos
  rw [validL_limbs (by omega), validL_limbs (by omega), decide_eq_true h1, decide_eq_true h2, decide_eq_true (h3.2 (by omega))]
  cases hn : f.neg with
  | false => rfl
  | true => rw [decide_eq_false (fun h5 => by have := h4.2 (h.neg hn); omega)]; rfl
theorem FValid_V (f : Fr) (h : VF f) : Ok Tryz.prog 64 [fracC f] (boolC true) := by
  have := FValid_list f.neg (limbs f.num) (limbs f.den) (by have := h.num; omega) (by have := h.den; omega)
  rw [h.list] at this; exact this
theorem VF.q (q : Rat) (h1 : (limbs (ofQ q).num).length ≤ 64) (h2 : (limbs (ofQ q).den).length ≤ 64) : VF (ofQ q) := ⟨h1, h2, ofQ_den q, fun h => by
  have : q.num < 0 := of_decide_eq_true h
  show q.num.natAbs ≠ 0
  omega⟩
theorem Satisfies1_V (f : Fr) (h : VF f) : Ok Tryz.prog 63 [fracC f] (boolC f.neg) := by
  refine Ok.enter Tryz.func63 rfl _ Tryz.ntmps63 rfl ?_
  intro S w
  (refine Qy (Qx fun K hK => ?_); refine Qt 0 rfl rfl rfl rfl rfl rfl rfl ?_; refine Qv rfl rfl rfl ?_; refine Qj (hK _ _ (Qz (Qy ?_))); clear hK K; refine Qx (fun K hK => ?_); refine Qp (n := 3) rfl rfl rfl rfl rfl (by with_reducible exact lFrac) rfl ?_)
  refine QX goFValid (FValid_V f h) rfl rfl rfl rfl ?_
  (refine Qr rfl rfl rfl ?_; refine Qq rfl rfl rfl ?_; refine QV rfl rfl rfl (by with_reducible first | exact fF0 | exact fF1 | exact fF2 | exact fR0 | exact fR1) rfl ?_; refine QJ rfl rfl rfl rfl rfl (by with_reducible first | exact lInt | exact lNat | exact lBool | exact lInts) rfl ?_; refine Q6 rfl rfl rfl rfl ?_; refine Qv rfl rfl rfl ?_; refine Qj (hK _ _ (Qz (Q3 ?_))); clear hK K)
  refine QK [_] rfl (QQ rfl Qu) rfl rfl
def satB (n : Int) (rs : List Rw) (xs : List Fr) : Bool := (validR n rs && decide ((xs.length : Int) = n)) && (!(xs.any fun f => f.neg) && rs.all fun r => decide (cmpQ (vsum r.cs xs) (r.b : Rat) ≤ 0))
structure SFit (rs : List Rw) (xs : List Fr) : Prop where
  v : ∀ r ∈ rs, VFit r.cs xs
  s1 : ∀ r ∈ rs, (limbs (ofQ (vsum r.cs xs)).num).length ≤ 64
  s2 : ∀ r ∈ rs, (limbs (ofQ (vsum r.cs xs)).den).length ≤ 64
theorem int_lens {b : Int} (hb : b.natAbs ≤ 4503599627370496) : (limbs (ofQ (b : Rat)).num).length ≤ 2 ∧ (limbs (ofQ (b : Rat)).den).length ≤ 1 :=
  ⟨limbs_length_le (Nat.lt_of_le_of_lt hb (by decide)), by rw [ofQ_int_den]; exact limbs_length_le (by decide)⟩
set_option maxHeartbeats 8000000 in
theorem Satisfies_gen (n : Int) (rs : List Rw) (xs : List Fr) (hrl : rs.length < 4611686018427387904) (hcl : ∀ r ∈ rs, r.cs.length < 4611686018427387904) (hxl : xs.length ≤ 1000) (hx : ∀ f ∈ xs, VF f) (hS : validR n rs = true → (xs.length : Int) = n → SFit rs xs) :
    Ok Tryz.prog 20 [intC n, rowsC rs, fracsC xs] (boolC (satB n rs xs)) := by
  have hV := LValid_ok n rs hrl hcl
  have hC := ContainsFunc_fracs xs _ (fun f => f.neg) goSatisfies1 (fun f hf => Satisfies1_V f (hx f hf)) (by omega)
  have hsat : satB n rs xs = ((validR n rs && decide ((xs.length : Int) = n)) && (!(xs.any fun f => f.neg) && rs.all fun r => decide (cmpQ (vsum r.cs xs) (r.b : Rat) ≤ 0))) := rfl
  generalize satB n rs xs = res at *
  refine Ok.enter Tryz.func20 rfl _ Tryz.ntmps20 rfl ?_
  intro S w
  cases hv : validR n rs with
  | false =>
    rw [hv] at hV hsat
    (refine Qy (Qx fun K hK => ?_); refine Qv rfl rfl rfl ?_; refine Qj (hK _ _ (Qz (Qy (Qy ?_)))); clear hK K; refine Qx (fun K hK => ?_); refine Qq rfl rfl rfl ?_; refine Qq rfl rfl rfl ?_)
    refine QX goLValid hV rfl rfl rfl rfl ?_
    (refine Qr rfl rfl rfl ?_; refine Qq rfl rfl rfl ?_; refine Qk rfl rfl rfl ?_; refine Qk rfl rfl rfl ?_; refine Qk rfl rfl rfl ?_; refine Qk rfl rfl rfl ?_; refine Q7 rfl rfl rfl rfl ?_; refine Qq rfl rfl rfl ?_; refine Qk rfl rfl rfl ?_; refine Qk rfl rfl rfl ?_; refine Q7 rfl rfl rfl rfl ?_; refine Qj (hK _ _ (Qz (Xk rfl (Qy ?_)))); clear hK K; refine Qx (fun K hK => ?_); refine Qv rfl rfl rfl ?_; refine Qj (hK _ _ (Qz (Q3 (QW ?_)))); clear hK K)
    refine QK [_] rfl (QQ rfl Qu) (by rw [hsat]; rfl) rfl
  | true =>
  rw [hv] at hV hsat
  by_cases hn : (xs.length : Int) = n
  · have H := hS hv hn
    obtain ⟨v1, v2, v3, v4⟩ := validR_spec hv
    rw [decide_eq_true hn] at hsat
    cases ha : xs.any (fun f => f.neg) with
    | true =>
      rw [ha] at hC hsat
      (refine Qy (Qx fun K hK => ?_); refine Qv rfl rfl rfl ?_; refine Qj (hK _ _ (Qz (Qy (Qy ?_)))); clear hK K; refine Qx (fun K hK => ?_); refine Qq rfl rfl rfl ?_; refine Qq rfl rfl rfl ?_)
      refine QX goLValid hV rfl rfl rfl rfl ?_
      (refine Qr rfl rfl rfl ?_; refine Qq rfl rfl rfl ?_; refine Qq rfl rfl rfl ?_; refine Q4 rfl rfl (by with_reducible first | exact sFracs.und | exact sRows.und) (List.length_map ..) rfl ?_; refine Qq rfl rfl rfl ?_; refine Qw ineq rfl rfl rfl rfl ?_; refine Q6 rfl rfl rfl rfl ?_; refine Qq rfl rfl rfl ?_)
      rw [decide_eq_false (show ¬ ((xs.length : Int) ≠ n) by omega)]
      (refine Qq rfl rfl rfl ?_)
      refine QX goContainsFunc_fracs hC rfl rfl rfl rfl ?_
      (refine Q6 rfl rfl rfl rfl ?_; refine Qj (hK _ _ (Qz (Xk rfl (Qy ?_)))); clear hK K; refine Qx (fun K hK => ?_); refine Qv rfl rfl rfl ?_; refine Qj (hK _ _ (Qz (Q3 (QW ?_)))); clear hK K)
      refine QK [_] rfl (QQ rfl Qu) (by rw [hsat]; rfl) rfl
    | false =>
      rw [ha] at hC hsat
      have hsat : res = rs.all fun r => decide (cmpQ (vsum r.cs xs) (r.b : Rat) ≤ 0) := by rw [hsat]; simp
      clear ha hS hx
      (refine Qy (Qx fun K hK => ?_); refine Qv rfl rfl rfl ?_; refine Qj (hK _ _ (Qz (Qy (Qy ?_)))); clear hK K; refine Qx (fun K hK => ?_); refine Qq rfl rfl rfl ?_; refine Qq rfl rfl rfl ?_)
      refine QX goLValid hV rfl rfl rfl rfl ?_
      (refine Qr rfl rfl rfl ?_; refine Qq rfl rfl rfl ?_; refine Qq rfl rfl rfl ?_; refine Q4 rfl rfl (by with_reducible first | exact sFracs.und | exact sRows.und) (List.length_map ..) rfl ?_; refine Qq rfl rfl rfl ?_; refine Qw ineq rfl rfl rfl rfl ?_; refine Q6 rfl rfl rfl rfl ?_; refine Qq rfl rfl rfl ?_)
      rw [decide_eq_false (show ¬ ((xs.length : Int) ≠ n) by omega)]
      (refine Qq rfl rfl rfl ?_)
      refine QX goContainsFunc_fracs hC rfl rfl rfl rfl ?_
      (refine Q6 rfl rfl rfl rfl ?_; refine Qj (hK _ _ (Qz (Qs rfl (QU (Qz (Qy (Qy ?_))))))); clear hK K; refine Qx (fun K hK => ?_); refine Qq rfl rfl rfl ?_; refine Q4 rfl rfl (by with_reducible first | exact sFracs.und | exact sRows.und) (List.length_map ..) rfl ?_; refine Qq rfl rfl rfl ?_; refine Qj (hK _ _ (Qz (Q2 ?_))); clear hK K)
      refine Ql (α := Nat) (fun i => i ≤ rs.length ∧ ∀ j, j < i → cmpQ (vsum (rs.getD j rw0).cs xs) ((rs.getD j rw0).b : Rat) ≤ 0)
        (fun i => [(2, .ct (fracsC xs)), (29, .ct (rowsC rs)), (30, .ct (intC rs.length)), (31, .ct (intC i))]) (fun _ => []) (fun i => rs.length - i) 0 ⟨Nat.zero_le _, fun j h => absurd h (Nat.not_lt_zero j)⟩ (by exact QZ rfl ⟨rfl, rfl, rfl, rfl, trivial⟩) ?_
      intro i ⟨hi, hj⟩
      (try dsimp only at hi hj ⊢)
      (refine Qy (Qx fun K hK => ?_); refine Qw ilss rfl rfl rfl rfl ?_; refine Qj (hK _ _ (Qz (Qy ?_))); clear hK K)
      refine Q0 rfl (fun h => ?_) (fun h => ?_)
      · have e2 : (i : Int).toNat = i := Int.toNat_natCast i
        have hlt : i < rs.length := by omega
        have hmem := getD_mem (z := rw0) hlt
        obtain ⟨r1, r2, r3⟩ := v4 (rs.getD i rw0) hmem
        have hVal := Value_gen (rs.getD i rw0).cs xs (H.v _ hmem)
        have hb := int_lens r3
        have hCm := FCompare_q (vsum (rs.getD i rw0).cs xs) ((rs.getD i rw0).b : Rat) (by have := H.s1 _ hmem; omega) (by have := H.s2 _ hmem; omega) (by omega) (by omega)
        have hFr := From_int (rs.getD i rw0).b (by omega) (by omega)
        (refine QU (Qz (Qy (Q2 (Qy (Qx fun K hK => ?_))))); refine Qf rfl rfl rfl (by with_reducible exact sRows) (by omega) (rows_at (by omega) (by omega)) rfl ?_; refine X8 (n := 2) rfl rfl rfl (by with_reducible exact lRow) rfl rfl ?_; refine Qd 0 rfl rfl (by with_reducible exact zvRow) rfl rfl rfl ?_; refine Qa 2 rfl rfl rfl rfl rfl (by with_reducible exact szRow) rfl rfl ?_; refine Qj (hK _ _ (Qz (Qy ?_))); clear hK K; refine Qx (fun K hK => ?_); refine QV rfl rfl rfl (by with_reducible first | exact fF0 | exact fF1 | exact fF2 | exact fR0 | exact fR1) rfl ?_; refine QJ rfl rfl rfl rfl rfl (by with_reducible first | exact lInt | exact lNat | exact lBool | exact lInts) rfl ?_; refine Qq rfl rfl rfl ?_)
        rw [e2]
        skip
        refine QX goValue hVal rfl rfl rfl rfl ?_
        (refine Qq rfl rfl rfl ?_; refine QY rfl rfl rfl rfl ?_; refine QY rfl rfl rfl rfl ?_; refine Qd 1 rfl rfl (by with_reducible first | exact zvFrac) rfl rfl rfl ?_; refine Qa 3 rfl rfl rfl rfl rfl (by with_reducible exact szFrac) rfl rfl ?_; refine Qv rfl rfl rfl ?_; refine Qj (hK _ _ (Qz (Qy (Qy ?_)))); clear hK K; refine Qx (fun K hK => ?_); refine Qq rfl rfl rfl ?_; refine Qw ineq rfl rfl rfl rfl ?_; refine Qj (hK _ _ (Qz (Qs rfl (QU (Qz (Qy ?_)))))); clear hK K; refine Qx (fun K hK => ?_); refine QV rfl rfl rfl (by with_reducible first | exact fF0 | exact fF1 | exact fF2 | exact fR0 | exact fR1) rfl ?_; refine QJ rfl rfl rfl rfl rfl (by with_reducible first | exact lInt | exact lNat | exact lBool | exact lInts) rfl ?_)
        refine QX goFFrom hFr rfl rfl rfl rfl ?_
        (refine Qq rfl rfl rfl ?_; refine QY rfl rfl rfl rfl ?_; refine QY rfl rfl rfl rfl ?_; refine Qd 2 rfl rfl (by with_reducible first | exact zvFrac) rfl rfl rfl ?_; refine Qa 3 rfl rfl rfl rfl rfl (by with_reducible exact szFrac) rfl rfl ?_; refine Qv rfl rfl rfl ?_; refine Qj (hK _ _ (Qz (Qy ?_))); clear hK K; refine Qx (fun K hK => ?_); refine Qp (n := 3) rfl rfl rfl rfl rfl (by with_reducible exact lFrac) rfl ?_; refine Qp (n := 3) rfl rfl rfl rfl rfl (by with_reducible exact lFrac) rfl ?_)
        refine QX goFCompare hCm rfl rfl rfl rfl ?_
        (refine Qq rfl rfl rfl ?_; refine QY rfl rfl rfl rfl ?_; refine QY rfl rfl rfl rfl ?_; refine Qv rfl rfl rfl ?_; refine Qv rfl rfl rfl ?_; refine Qj (hK _ _ (Qz (Qy ?_))); clear hK K; refine Qx (fun K hK => ?_); refine Qq rfl rfl rfl ?_; refine Qw igtr rfl rfl rfl rfl ?_; refine Qj (hK _ _ (Qz ?_)); clear hK K)
        refine Q0 rfl (fun h2 => ?_) (fun h2 => ?_)
        · (refine Qy (Qx fun K hK => ?_); refine Qv rfl rfl rfl ?_; refine Qj (hK _ _ (Qz (Q3 (Q9 (QW (QW (Q9 (QW ?_)))))))); clear hK K)
          refine QK [_] rfl (QQ rfl Qu) (by
            rw [hsat, List.all_eq_false.mpr ⟨_, hmem, by simp only [decide_eq_true_eq]; omega⟩]; rfl) rfl
        · (refine QU (Qz (Qx fun K hK => ?_)); refine Qw (iadd (by omega) (by omega)) rfl rfl rfl rfl ?_; refine Qq rfl rfl rfl ?_; refine Qj (hK _ _ (Q5 ?_)); clear hK K)
          refine XY 2 (XY 1 (XY 0 ?_))
          refine Q8 (i + 1) (by omega) ⟨by omega, ?_⟩ (by exact QZ rfl ⟨rfl, rfl, rfl, by simp only [Int.natCast_add]; rfl, trivial⟩)
          intro j hj'
          rcases Nat.lt_or_ge j i with h3 | h3
          · exact hj j h3
          · have : j = i := by omega
            rw [this]; omega
      · have hi' : i = rs.length := by omega
        (refine Qe (Qz (Qy (Qx fun K hK => ?_))); refine Qv rfl rfl rfl ?_; refine Qj (hK _ _ (Qz (Q3 ?_))); clear hK K)
        refine QK [_] rfl (QQ rfl Qu) (by
          rw [hsat, List.all_eq_true.mpr fun r hr => by
            obtain ⟨j, hj2, rfl⟩ := List.getElem_of_mem hr
            have := hj j (by omega)
            simp only [List.getD_eq_getElem?_getD, List.getElem?_eq_getElem hj2, Option.getD_some] at this
            exact decide_eq_true this]; rfl) rfl
  · rw [decide_eq_false hn] at hsat
    (refine Qy (Qx fun K hK => ?_); refine Qv rfl rfl rfl ?_; refine Qj (hK _ _ (Qz (Qy (Qy ?_)))); clear hK K; refine Qx (fun K hK => ?_); refine Qq rfl rfl rfl ?_; refine Qq rfl rfl rfl ?_)
    refine QX goLValid hV rfl rfl rfl rfl ?_
    (refine Qr rfl rfl rfl ?_; refine Qq rfl rfl rfl ?_; refine Qq rfl rfl rfl ?_; refine Q4 rfl rfl (by with_reducible first | exact sFracs.und | exact sRows.und) (List.length_map ..) rfl ?_; refine Qq rfl rfl rfl ?_; refine Qw ineq rfl rfl rfl rfl ?_; refine Q6 rfl rfl rfl rfl ?_; refine Qq rfl rfl rfl ?_)
    rw [decide_eq_true (show ((xs.length : Int) ≠ n) by omega)]
    (refine Qk rfl rfl rfl ?_; refine Qk rfl rfl rfl ?_; refine Q7 rfl rfl rfl rfl ?_; refine Qj (hK _ _ (Qz (Xk rfl (Qy ?_)))); clear hK K; refine Qx (fun K hK => ?_); refine Qv rfl rfl rfl ?_; refine Qj (hK _ _ (Qz (Q3 (QW ?_)))); clear hK K)
    refine QK [_] rfl (QQ rfl Qu) (by rw [hsat]; rfl) rfl
end Go.Proofs.YtdhmbgogmoaofaaGreat
namespace Go.Proofs.YtdhmbgogmoaofaaGreat
open Go.Own Go.Limbs
attribute [local irreducible] St Ops Go.Own.Fin Ok
theorem rOrder_ok (x y : Int) : Ok Tryz.prog 162 [intC x, intC y] (intC (cmpI x y)) := by
  refine Ok.enter Tryz.func162 rfl _ Tryz.ntmps162 rfl ?_
  intro S w
  (refine Qy (Qx fun K hK => ?_); refine Qv rfl rfl rfl ?_; refine Qj (hK _ _ (Qz (Qy (Qy ?_)))); clear hK K; refine Qx (fun K hK => ?_); refine Qq rfl rfl rfl ?_; refine Qq rfl rfl rfl ?_; refine Qw ilss rfl rfl rfl rfl ?_; refine Qj (hK _ _ (Qz ?_)); clear hK K)
  refine Q0 rfl (fun h => ?_) (fun h => ?_)
  · (refine Qy (Qx fun K hK => ?_); refine Qv rfl rfl rfl ?_; refine Qj (hK _ _ (Qz (Q3 (QW ?_)))); clear hK K)
    refine QK [_] rfl (QQ rfl Qu) (by rw [cmpI_eq, if_pos h]; rfl) rfl
  · (refine QU (Qz (Qy (Qy (Qx fun K hK => ?_)))); refine Qq rfl rfl rfl ?_; refine Qq rfl rfl rfl ?_; refine Qw igtr rfl rfl rfl rfl ?_; refine Qj (hK _ _ (Qz ?_)); clear hK K)
    refine Q0 rfl (fun h2 => ?_) (fun h2 => ?_)
    · (refine Qy (Qx fun K hK => ?_); refine Qv rfl rfl rfl ?_; refine Qj (hK _ _ (Qz (Q3 (QW ?_)))); clear hK K)
      refine QK [_] rfl (QQ rfl Qu) (by rw [cmpI_eq, if_neg h, if_pos h2]; rfl) rfl
    · (refine QU (Qz (Qy (Qx fun K hK => ?_))); refine Qv rfl rfl rfl ?_; refine Qj (hK _ _ (Qz (Q3 ?_))); clear hK K)
      refine QK [_] rfl (QQ rfl Qu) (by rw [cmpI_eq, if_neg h, if_neg h2]; rfl) rfl
theorem gorOrder : InGo Tryz.prog 162 := InGo.of Tryz.func162 (by kernel_rfl) (by kernel_rfl)
theorem rTrim_ok (xs : List Int) (hl : xs.length < 4611686018427387904) : Ok Tryz.prog 142 [intsC xs] (intsC (trimL xs)) := by
  refine Ok.enter Tryz.func142 rfl _ Tryz.ntmps142 rfl ?_
  intro S w
  (refine Qy (Qx fun K hK => ?_); refine Qv rfl rfl rfl ?_; refine Qj (hK _ _ (Qz (Qy (Q2 ?_)))); clear hK K)
  refine Ql (α := List Int) (fun ys => trimL ys = trimL xs ∧ ys.length ≤ xs.length) (fun ys => [(0, .ct (intsC ys))]) (fun _ => []) (fun ys => ys.length) xs ⟨rfl, Nat.le_refl _⟩ (Entails.sub ⟨rfl, trivial⟩) ?_
  intro ys ⟨hy, hle⟩
  (refine Qy (Qy (Qx fun K hK => ?_)); refine Qq rfl rfl rfl ?_; refine Q4 rfl rfl (by with_reducible first | exact sNat.und | exact sInts.und) (List.length_map ..) rfl ?_; refine Qw igtr rfl rfl rfl rfl ?_; refine Qq rfl rfl rfl ?_)
  refine Qg 6 rfl (fun h => ?_) (fun h => ?_)
  · have e1 : ((ys.length : Int) - 1).toNat = ys.length - 1 := by omega
    (refine Qq rfl rfl rfl ?_; refine Qq rfl rfl rfl ?_; refine Q4 rfl rfl (by with_reducible first | exact sNat.und | exact sInts.und) (List.length_map ..) rfl ?_; refine Qw (isub (by omega) (by omega)) rfl rfl rfl rfl ?_; refine Qf rfl rfl rfl (by with_reducible first | exact sNat | exact sInts) (by omega) (ints_at (by omega) (by omega)) rfl ?_; refine Qm rfl rfl rfl (by with_reducible first | exact lInt | exact lNat | exact lBool | exact lInts) rfl ?_; refine Qw ieql rfl rfl rfl rfl ?_; refine Q7 rfl rfl rfl rfl ?_; refine Qj (hK _ _ (Qz ?_)); clear hK K)
    refine Q0 rfl (fun h2 => ?_) (fun h2 => ?_)
    · rw [e1] at h2
      (refine QU (Qz (Q2 (Qx fun K hK => ?_))); refine Qq rfl rfl rfl ?_; refine Qq rfl rfl rfl ?_; refine Q4 rfl rfl (by with_reducible first | exact sNat.und | exact sInts.und) (List.length_map ..) rfl ?_; refine Qw (isub (by omega) (by omega)) rfl rfl rfl rfl ?_)
      refine Ops.cutHi rfl rfl rfl (by with_reducible exact sNat) (by omega) (by simp) rfl ?_
      rw [← List.map_take]
      (refine Qv rfl rfl rfl ?_; refine Qj (hK _ _ (Xw (Q5 ?_))); clear hK K)
      refine Q8 (ys.take ((ys.length : Int) - 1).toNat) (by simp; omega) ⟨?_, by simp; omega⟩ (Entails.sub ⟨rfl, trivial⟩)
      rw [e1, ← hy]; exact trim_last (by omega) h2
    · rw [e1] at h2
      (refine Qe (Qz (Qy (Qx fun K hK => ?_))); refine Qq rfl rfl rfl ?_; refine Qv rfl rfl rfl ?_; refine Qj (hK _ _ (Qz (Q3 ?_))); clear hK K)
      refine QK [_] rfl (QQ rfl Qu) (by rw [← hy, trim_done (fun _ => h2)]; rfl) rfl
  · (refine Qk rfl rfl rfl ?_; refine Qk rfl rfl rfl ?_; refine Qk rfl rfl rfl ?_; refine Qk rfl rfl rfl ?_; refine Qk rfl rfl rfl ?_; refine Qk rfl rfl rfl ?_; refine Qk rfl rfl rfl ?_; refine Q6 rfl rfl rfl rfl ?_; refine Qj (hK _ _ (Qz (Qs rfl (Qe (Qz (Qy ?_)))))); clear hK K; refine Qx (fun K hK => ?_); refine Qq rfl rfl rfl ?_; refine Qv rfl rfl rfl ?_; refine Qj (hK _ _ (Qz (Q3 ?_))); clear hK K)
    refine QK [_] rfl (QQ rfl Qu) (by rw [← hy, trim_done (fun h3 => absurd h3 (by omega))]; rfl) rfl
theorem gorTrim : InGo Tryz.prog 142 := InGo.of Tryz.func142 (by kernel_rfl) (by kernel_rfl)
set_option maxHeartbeats 2000000 in
theorem rCompare_ok (a b : Nat) (ha : (limbs a).length < 4611686018427387904) (hb : (limbs b).length < 4611686018427387904) : Ok Tryz.prog 143 [natC a, natC b] (intC (cmpI a b)) := by
  refine Ok.enter Tryz.func143 rfl _ Tryz.ntmps143 rfl ?_
  intro S w
  (refine Qy (Qx fun K hK => ?_); refine Qv rfl rfl rfl ?_; refine Qj (hK _ _ (Qz (Qy (Qy ?_)))); clear hK K; refine Qx (fun K hK => ?_); refine Qq rfl rfl rfl ?_; refine Q4 rfl rfl (by with_reducible first | exact sNat.und | exact sInts.und) (List.length_map ..) rfl ?_; refine Qq rfl rfl rfl ?_; refine Q4 rfl rfl (by with_reducible first | exact sNat.und | exact sInts.und) (List.length_map ..) rfl ?_; refine Qw ineq rfl rfl rfl rfl ?_; refine Qj (hK _ _ (Qz ?_)); clear hK K)
  refine Q0 rfl (fun h => ?_) (fun h => ?_)
  · have e : cmpI ((limbs a).length : Int) ((limbs b).length : Int) = cmpI (a : Int) (b : Int) := by
      rcases Nat.lt_trichotomy (limbs a).length (limbs b).length with h1 | h1 | h1
      · have := lt_of_len h1; rw [cmpI_eq, cmpI_eq, if_pos (by omega), if_pos (by omega)]
      · omega
      · have := lt_of_len h1; rw [cmpI_eq, cmpI_eq, if_neg (by omega), if_pos (by omega), if_neg (by omega), if_pos (by omega)]
    (refine Qy (Qx fun K hK => ?_); refine Qq rfl rfl rfl ?_; refine Q4 rfl rfl (by with_reducible first | exact sNat.und | exact sInts.und) (List.length_map ..) rfl ?_; refine Qq rfl rfl rfl ?_; refine Q4 rfl rfl (by with_reducible first | exact sNat.und | exact sInts.und) (List.length_map ..) rfl ?_)
    refine QX gorOrder (rOrder_ok _ _) rfl rfl rfl rfl ?_
    (refine Qv rfl rfl rfl ?_; refine Qj (hK _ _ (Qz (Q3 (QW ?_)))); clear hK K)
    refine QK [_] rfl (QQ rfl Qu) (by rw [← e]; rfl) rfl
  · have hl : (limbs a).length = (limbs b).length := by omega
    clear h
    (refine QU (Qz (Qy (Qy (Qx fun K hK => ?_)))); refine Qq rfl rfl rfl ?_; refine Q4 rfl rfl (by with_reducible first | exact sNat.und | exact sInts.und) (List.length_map ..) rfl ?_; refine Qw (isub (by omega) (by omega)) rfl rfl rfl rfl ?_; refine Qv rfl rfl rfl ?_; refine Qj (hK _ _ (Qz (Q2 ?_))); clear hK K)
    refine Ql (α := Nat) (fun k => k ≤ (limbs a).length ∧ pre (limbs a) k - pre (limbs b) k = (a : Int) - b)
      (fun k => [(0, .ct (natC a)), (1, .ct (natC b)), (5, .ct (intC ((k : Int) - 1)))]) (fun _ => []) (fun k => k) (limbs a).length ⟨Nat.le_refl _, ?_⟩ (by exact QZ rfl ⟨rfl, rfl, rfl, trivial⟩) ?_
    · have e1 := val_eq_pre a
      have e2 := val_eq_pre b
      rw [← hl] at e2; rw [e1, e2]
    intro k ⟨hk, hv⟩
    dsimp only
    (refine Qy (Qy (Qx fun K hK => ?_)); refine Qq rfl rfl rfl ?_; refine Qw igeq rfl rfl rfl rfl ?_; refine Qj (hK _ _ (Qz ?_)); clear hK K)
    refine Q0 rfl (fun h => ?_) (fun h => ?_)
    · obtain ⟨q, rfl⟩ : ∃ q, k = q + 1 := ⟨k - 1, by omega⟩
      have e1 : (((q + 1 : Nat) : Int) - 1) = (q : Int) := by omega
      have e2 : (q : Int).toNat = q := Int.toNat_natCast q
      rw [e1]
      (refine QU (Qz (Qy (Q2 (Qy ?_)))))
      refine Xq (by with_reducible exact mixed) 9 (.p 0 (.p 1 (.p 2 (.p 4 (.p 5 (.p 6 (.f 3 (.f 7 (.p 8 .done))))))))) (by kernel_rfl) (fun K hK => ?_)
      (refine Qq rfl rfl rfl ?_; refine Qq rfl rfl rfl ?_; refine Qf rfl rfl rfl (by with_reducible first | exact sNat | exact sInts) (by omega) (ints_at (by omega) (by omega)) rfl ?_; refine Qq rfl rfl rfl ?_; refine Qq rfl rfl rfl ?_; refine Qf rfl rfl rfl (by with_reducible first | exact sNat | exact sInts) (by omega) (ints_at (by omega) (by omega)) rfl ?_; refine Qm rfl rfl rfl (by with_reducible first | exact lInt | exact lNat | exact lBool | exact lInts) rfl ?_; refine Qm rfl rfl rfl (by with_reducible first | exact lInt | exact lNat | exact lBool | exact lInts) rfl ?_; refine Qw ineq rfl rfl rfl rfl ?_; refine Qj (hK _ _ (Qz ?_)); clear hK K)
      refine Q0 rfl (fun h2 => ?_) (fun h2 => ?_)
      · rw [e2] at h2
        have e : cmpI ((limbs a).getD q 0) ((limbs b).getD q 0) = cmpI (a : Int) (b : Int) := by
          rcases Int.lt_or_gt_of_ne h2 with h3 | h3
          · have := pre_decides (limbs_ok a) (limbs_ok b) h3
            rw [cmpI_eq, cmpI_eq, if_pos h3, if_pos (by omega)]
          · have := pre_decides (limbs_ok b) (limbs_ok a) h3
            rw [cmpI_eq, cmpI_eq, if_neg (by omega), if_pos h3, if_neg (by omega), if_pos (by omega)]
        (refine Qy ?_)
        refine Xq (by with_reducible exact mixed) 10 (.p 0 (.p 1 (.p 2 (.p 4 (.p 5 (.p 6 (.f 3 (.f 7 (.m 8 (.p 9 .done)))))))))) (by kernel_rfl) (fun K hK => ?_)
        (refine Qq rfl rfl rfl ?_; refine Qq rfl rfl rfl ?_; refine Qf rfl rfl rfl (by with_reducible first | exact sNat | exact sInts) (by omega) (ints_at (by omega) (by omega)) rfl ?_; refine Qq rfl rfl rfl ?_; refine Qq rfl rfl rfl ?_; refine Qf rfl rfl rfl (by with_reducible first | exact sNat | exact sInts) (by omega) (ints_at (by omega) (by omega)) rfl ?_; refine Qm rfl rfl rfl (by with_reducible first | exact lInt | exact lNat | exact lBool | exact lInts) rfl ?_; refine Qm rfl rfl rfl (by with_reducible first | exact lInt | exact lNat | exact lBool | exact lInts) rfl ?_)
        refine QX gorOrder (rOrder_ok _ _) rfl rfl rfl rfl ?_
        rw [e2]
        (refine Qv rfl rfl rfl ?_; refine Qj (hK _ _ (Qz (Q3 (Q9 (QW (QW (Q9 (QW ?_)))))))); clear hK K)
        refine QK [_] rfl (QQ rfl Qu) (by rw [← e]; rfl) rfl
      · rw [e2] at h2
        (refine QU (Qz (Qx fun K hK => ?_)); refine Qq rfl rfl rfl ?_; refine Qw (isub (by omega) (by omega)) rfl rfl rfl rfl ?_; refine Qv rfl rfl rfl ?_; refine Qj (hK _ _ (Q5 ?_)); clear hK K)
        refine Q8 q (by omega) ⟨by omega, ?_⟩ (by exact QZ rfl ⟨rfl, rfl, rfl, trivial⟩)
        rw [pre_succ, pre_succ] at hv
        have : (limbs a).getD q 0 = (limbs b).getD q 0 := Classical.not_not.1 h2
        rw [this] at hv; omega
    · have hk0 : k = 0 := by omega
      subst hk0
      rw [pre_zero, pre_zero] at hv
      (refine Qe (Qz (Qy (Qx fun K hK => ?_))); refine Qv rfl rfl rfl ?_; refine Qj (hK _ _ (Qz (Q3 ?_))); clear hK K)
      refine QK [_] rfl (QQ rfl Qu) (by rw [cmpI_eq, if_neg (by omega), if_neg (by omega)]; rfl) rfl
theorem gorCompare : InGo Tryz.prog 143 := InGo.of Tryz.func143 (by kernel_rfl) (by kernel_rfl)
theorem rlimb_ok (xs : List Int) (i : Nat) : Ok Tryz.prog 141 [intsC xs, intC i] (intC (xs.getD i 0)) := by
  refine Ok.enter Tryz.func141 rfl _ Tryz.ntmps141 rfl ?_
  intro S w
  (refine Qy (Qx fun K hK => ?_); refine Qv rfl rfl rfl ?_; refine Qj (hK _ _ (Qz (Qy (Qy ?_)))); clear hK K; refine Qx (fun K hK => ?_); refine Qq rfl rfl rfl ?_; refine Qq rfl rfl rfl ?_; refine Q4 rfl rfl (by with_reducible first | exact sNat.und | exact sInts.und) (List.length_map ..) rfl ?_; refine Qw ilss rfl rfl rfl rfl ?_; refine Qj (hK _ _ (Qz ?_)); clear hK K)
  refine Q0 rfl (fun h => ?_) (fun h => ?_)
  · have e2 : (i : Int).toNat = i := Int.toNat_natCast i
    (refine Qy (Qx fun K hK => ?_); refine Qq rfl rfl rfl ?_; refine Qq rfl rfl rfl ?_; refine Qf rfl rfl rfl (by with_reducible first | exact sNat | exact sInts) (by omega) (ints_at (by omega) (by omega)) rfl ?_; refine Qm rfl rfl rfl (by with_reducible first | exact lInt | exact lNat | exact lBool | exact lInts) rfl ?_; refine Qv rfl rfl rfl ?_; refine Qj (hK _ _ (Qz (Q3 (QW ?_)))); clear hK K)
    rw [e2]
    skip
    refine QK [_] rfl (QQ rfl Qu) rfl rfl
  · (refine QU (Qz (Qy (Qx fun K hK => ?_))); refine Qv rfl rfl rfl ?_; refine Qj (hK _ _ (Qz (Q3 ?_))); clear hK K)
    refine QK [_] rfl (QQ rfl Qu) (by rw [List.getD_eq_getElem?_getD, List.getElem?_eq_none (by omega)]; rfl) rfl
theorem gorlimb : InGo Tryz.prog 141 := InGo.of Tryz.func141 (by kernel_rfl) (by kernel_rfl)
theorem limbs_top {n : Nat} (h : 0 < (limbs n).length) : (limbs n).getD ((limbs n).length - 1) 0 ≠ 0 := fun h0 => by
  have h1 := trim_last h h0
  rw [trim_of_limbs] at h1
  have h2 := trim_len ((limbs n).take ((limbs n).length - 1))
  rw [h1] at h2
  simp at h2; omega
theorem getD_past {xs : List Int} {i : Nat} (h : xs.length ≤ i) : xs.getD i 0 = 0 := by
  rw [List.getD_eq_getElem?_getD, List.getElem?_eq_none (by omega)]; rfl
set_option maxHeartbeats 2000000 in
theorem rPlus_ok (a b : Nat) (ha : (limbs a).length ≤ 1000000) (hb : (limbs b).length ≤ 1000000) : Ok Tryz.prog 104 [natC a, natC b] (natC (a + b)) := by
  refine Ok.enter Tryz.func104 rfl _ Tryz.ntmps104 rfl ?_
  intro S w
  (refine Qy (Qx fun K hK => ?_); refine Qv rfl rfl rfl ?_; refine Qj (hK _ _ (Qz (Qy ?_))); clear hK K; refine Qx (fun K hK => ?_); refine Qv rfl rfl rfl ?_; refine Qj (hK _ _ (Qz (Qy ?_))); clear hK K; refine Qx (fun K hK => ?_); refine Qv rfl rfl rfl ?_; refine Qj (hK _ _ (Qz (Qy (Qy ?_)))); clear hK K; refine Qx (fun K hK => ?_); refine Qv rfl rfl rfl ?_; refine Qj (hK _ _ (Qz (Q2 ?_))); clear hK K)
  refine X4 5 0 3 1 rfl rfl rfl ?_
  skip
  refine Ql (α := Nat × List Int × Int) (fun s => s.2.1.length = s.1 ∧ OKL s.2.1 ∧ 0 ≤ s.2.2 ∧ s.2.2 ≤ 1 ∧ (s.1 ≤ max (limbs a).length (limbs b).length ∨ s.2.2 = 0) ∧ s.1 ≤ max (limbs a).length (limbs b).length + 1 ∧ val s.2.1 + s.2.2 * BB ^ s.1 = pre (limbs a) s.1 + pre (limbs b) s.1 ∧
      (max (limbs a).length (limbs b).length ≤ s.1 → s.2.2 = 0 → trimL s.2.1 = s.2.1))
    (fun s => [(0, .ct (natC a)), (1, .ct (natC b)), (5, .own 0), (6, .ct (intC s.2.2)), (7, .ct (intC s.1))]) (fun s => [(0, .row 3 1 (ints s.2.1))])
    (fun s => 2 * (max (limbs a).length (limbs b).length - s.1) + s.2.2.toNat) (0, [], 0) ⟨rfl, OKL.nil, by decide, by decide, .inr rfl, Nat.zero_le _, by simp [val, pre_zero], fun _ _ => rfl⟩ (by exact QZ rfl ⟨rfl, rfl, rfl, rfl, rfl, trivial⟩) ?_
  rintro ⟨i, zs, c⟩ ⟨hz, hok, hc0, hc1, hor, hi, hv, ht⟩
  dsimp only at hz hok hc0 hc1 hor hi hv ht ⊢
  have b1 := (limbs_ok a).get i
  have b2 := (limbs_ok b).get i
  have t1 := limbs_top (n := a)
  have t2 := limbs_top (n := b)
  have p1 := getD_past (xs := limbs a) (i := i)
  have p2 := getD_past (xs := limbs b) (i := i)
  simp only [BB] at b1 b2
  have step : ((i : Int) < (limbs a).length ∨ (i : Int) < (limbs b).length ∨ 0 < c) →
      (2 * (max (limbs a).length (limbs b).length - (i + 1)) + ((((limbs a).getD i 0 + (limbs b).getD i 0 + c) / 1073741824).toNat) < 2 * (max (limbs a).length (limbs b).length - i) + c.toNat) ∧
      ((zs ++ [((limbs a).getD i 0 + (limbs b).getD i 0 + c) % 1073741824]).length = i + 1 ∧ OKL (zs ++ [((limbs a).getD i 0 + (limbs b).getD i 0 + c) % 1073741824]) ∧ 0 ≤ ((limbs a).getD i 0 + (limbs b).getD i 0 + c) / 1073741824 ∧ ((limbs a).getD i 0 + (limbs b).getD i 0 + c) / 1073741824 ≤ 1 ∧ (i + 1 ≤ max (limbs a).length (limbs b).length ∨ ((limbs a).getD i 0 + (limbs b).getD i 0 + c) / 1073741824 = 0) ∧ i + 1 ≤ max (limbs a).length (limbs b).length + 1 ∧ val (zs ++ [((limbs a).getD i 0 + (limbs b).getD i 0 + c) % 1073741824]) + ((limbs a).getD i 0 + (limbs b).getD i 0 + c) / 1073741824 * BB ^ (i + 1) = pre (limbs a) (i + 1) + pre (limbs b) (i + 1) ∧
      (max (limbs a).length (limbs b).length ≤ i + 1 → ((limbs a).getD i 0 + (limbs b).getD i 0 + c) / 1073741824 = 0 → trimL (zs ++ [((limbs a).getD i 0 + (limbs b).getD i 0 + c) % 1073741824]) = zs ++ [((limbs a).getD i 0 + (limbs b).getD i 0 + c) % 1073741824])) := by
    intro hgo
    refine ⟨by omega, by simp [hz], hok.append (OKL.cons (by simp only [BB]; omega) OKL.nil), by omega, by omega, by omega, by omega, ?_, ?_⟩
    · rw [val_append, hz, pre_succ, pre_succ]
      have e := Int.mul_ediv_add_emod ((limbs a).getD i 0 + (limbs b).getD i 0 + c) 1073741824
      clear t1 t2 p1 p2 ht hor hgo
      simp only [val, BB] at *
      generalize ((limbs a).getD i 0 + (limbs b).getD i 0 + c) / 1073741824 = q at *
      generalize ((limbs a).getD i 0 + (limbs b).getD i 0 + c) % 1073741824 = m at *
      grind
    · intro hm hcz
      refine trim_id ?_
      have hx : (limbs a).getD i 0 + (limbs b).getD i 0 + c ≠ 0 := by
        rcases hgo with hg | hg | hg
        · rcases Nat.lt_or_ge (i + 1) (limbs a).length with h5 | h5
          · omega
          · have e5 : (limbs a).length - 1 = i := by omega
            rw [e5] at t1
            have := t1 (by omega); omega
        · rcases Nat.lt_or_ge (i + 1) (limbs b).length with h5 | h5
          · omega
          · have e5 : (limbs b).length - 1 = i := by omega
            rw [e5] at t2
            have := t2 (by omega); omega
        · omega
      omega
  have fin : ¬ ((i : Int) < (limbs a).length ∨ (i : Int) < (limbs b).length ∨ 0 < c) → natC (a + b) = intsC zs := by
    intro hgo
    have hc : c = 0 := by omega
    have h1 := ht (by omega) hc
    rw [hc, Int.zero_mul, pre_all (by omega), pre_all (by omega), val_limbs, val_limbs] at hv
    rw [show intsC zs = intsC (trimL zs) by rw [h1], trim_limbs hok, show (val zs).toNat = a + b by omega]
  have e2 : (i : Int).toNat = i := Int.toNat_natCast i
  clear ht hor t1 t2 p1 p2
  (refine Qy (Qy (Qx fun K hK => ?_)); refine Qq rfl rfl rfl ?_; refine Qq rfl rfl rfl ?_; refine Q4 rfl rfl (by with_reducible first | exact sNat.und | exact sInts.und) (List.length_map ..) rfl ?_; refine Qw ilss rfl rfl rfl rfl ?_; refine Qq rfl rfl rfl ?_)
  refine Qg 13 rfl (fun g1 => ?_) (fun g1 => ?_)
  · have st := step (.inl g1)
    clear step fin
    (refine Qk rfl rfl rfl ?_; refine Qk rfl rfl rfl ?_; refine Qk rfl rfl rfl ?_; refine Qk rfl rfl rfl ?_; refine Q7 rfl rfl rfl rfl ?_; refine Qq rfl rfl rfl ?_; refine Qk rfl rfl rfl ?_; refine Qk rfl rfl rfl ?_; refine Q7 rfl rfl rfl rfl ?_; refine Qj (hK _ _ (Qz (Xk rfl (QU (Qz (Qy (Q2 (Qy ?_)))))))); clear hK K; refine Qx (fun K hK => ?_); refine Qq rfl rfl rfl ?_; refine Qq rfl rfl rfl ?_)
    refine QX gorlimb (rlimb_ok (limbs a) i) rfl rfl rfl rfl ?_
    (refine Qq rfl rfl rfl ?_; refine Qq rfl rfl rfl ?_)
    refine QX gorlimb (rlimb_ok (limbs b) i) rfl rfl rfl rfl ?_
    (refine Qw (iadd (by omega) (by omega)) rfl rfl rfl rfl ?_; refine Qq rfl rfl rfl ?_; refine Qw (iadd (by omega) (by omega)) rfl rfl rfl rfl ?_; refine Qv rfl rfl rfl ?_; refine Qj (hK _ _ (Qz (Qy ?_))); clear hK K; refine Qx (fun K hK => ?_); refine Qq rfl rfl rfl ?_; refine Qq rfl rfl rfl ?_; refine Qw (irem (by omega) (by omega)) rfl rfl rfl rfl ?_)
    refine Xx rfl rfl (by with_reducible exact sNat) rfl rfl rfl ?_
    refine Qh zs.length (ints (zs ++ [((limbs a).getD i 0 + (limbs b).getD i 0 + c) % 1073741824])) rfl rfl rfl rfl (by with_reducible exact sNat) (by simp [ints]) rfl (by omega) (by omega) (by simp [ints]) rfl ?_
    (refine Qv rfl rfl rfl ?_; refine Qj (hK _ _ (Qz ?_)); clear hK K; refine Qx (fun K hK => ?_); refine Qq rfl rfl rfl ?_; refine Qw (iquo (by omega) (by omega) (by omega)) rfl rfl rfl rfl ?_; refine Qv rfl rfl rfl ?_; refine Qj (hK _ _ (Qz ?_)); clear hK K; refine Qx (fun K hK => ?_); refine Qq rfl rfl rfl ?_; refine Qw (iadd (by omega) (by omega)) rfl rfl rfl rfl ?_; refine Qv rfl rfl rfl ?_; refine Qj (hK _ _ (Q5 ?_)); clear hK K)
    refine Q8 (i + 1, zs ++ [((limbs a).getD i 0 + (limbs b).getD i 0 + c) % 1073741824], ((limbs a).getD i 0 + (limbs b).getD i 0 + c) / 1073741824) st.1 st.2 (by exact QZ rfl ⟨rfl, rfl, rfl, rfl, by simp only [Int.natCast_add]; rfl, trivial⟩)
  · (refine Qq rfl rfl rfl ?_; refine Qq rfl rfl rfl ?_; refine Q4 rfl rfl (by with_reducible first | exact sNat.und | exact sInts.und) (List.length_map ..) rfl ?_; refine Qw ilss rfl rfl rfl rfl ?_; refine Q6 rfl rfl rfl rfl ?_; refine Qq rfl rfl rfl ?_)
    refine Qg 19 rfl (fun g2 => ?_) (fun g2 => ?_)
    · have st := step (.inr (.inl g2))
      clear step fin
      (refine Qk rfl rfl rfl ?_; refine Qk rfl rfl rfl ?_; refine Q7 rfl rfl rfl rfl ?_; refine Qj (hK _ _ (Qz (Xk rfl (QU (Qz (Qy (Q2 (Qy ?_)))))))); clear hK K; refine Qx (fun K hK => ?_); refine Qq rfl rfl rfl ?_; refine Qq rfl rfl rfl ?_)
      refine QX gorlimb (rlimb_ok (limbs a) i) rfl rfl rfl rfl ?_
      (refine Qq rfl rfl rfl ?_; refine Qq rfl rfl rfl ?_)
      refine QX gorlimb (rlimb_ok (limbs b) i) rfl rfl rfl rfl ?_
      (refine Qw (iadd (by omega) (by omega)) rfl rfl rfl rfl ?_; refine Qq rfl rfl rfl ?_; refine Qw (iadd (by omega) (by omega)) rfl rfl rfl rfl ?_; refine Qv rfl rfl rfl ?_; refine Qj (hK _ _ (Qz (Qy ?_))); clear hK K; refine Qx (fun K hK => ?_); refine Qq rfl rfl rfl ?_; refine Qq rfl rfl rfl ?_; refine Qw (irem (by omega) (by omega)) rfl rfl rfl rfl ?_)
      refine Xx rfl rfl (by with_reducible exact sNat) rfl rfl rfl ?_
      refine Qh zs.length (ints (zs ++ [((limbs a).getD i 0 + (limbs b).getD i 0 + c) % 1073741824])) rfl rfl rfl rfl (by with_reducible exact sNat) (by simp [ints]) rfl (by omega) (by omega) (by simp [ints]) rfl ?_
      (refine Qv rfl rfl rfl ?_; refine Qj (hK _ _ (Qz ?_)); clear hK K; refine Qx (fun K hK => ?_); refine Qq rfl rfl rfl ?_; refine Qw (iquo (by omega) (by omega) (by omega)) rfl rfl rfl rfl ?_; refine Qv rfl rfl rfl ?_; refine Qj (hK _ _ (Qz ?_)); clear hK K; refine Qx (fun K hK => ?_); refine Qq rfl rfl rfl ?_; refine Qw (iadd (by omega) (by omega)) rfl rfl rfl rfl ?_; refine Qv rfl rfl rfl ?_; refine Qj (hK _ _ (Q5 ?_)); clear hK K)
      refine Q8 (i + 1, zs ++ [((limbs a).getD i 0 + (limbs b).getD i 0 + c) % 1073741824], ((limbs a).getD i 0 + (limbs b).getD i 0 + c) / 1073741824) st.1 st.2 (by exact QZ rfl ⟨rfl, rfl, rfl, rfl, by simp only [Int.natCast_add]; rfl, trivial⟩)
    · (refine Qq rfl rfl rfl ?_; refine Qw igtr rfl rfl rfl rfl ?_; refine Q6 rfl rfl rfl rfl ?_; refine Qj (hK _ _ (Qz ?_)); clear hK K)
      refine Q0 rfl (fun g3 => ?_) (fun g3 => ?_)
      · have st := step (.inr (.inr g3))
        clear step fin
        (refine QU (Qz (Qy (Q2 (Qy (Qx fun K hK => ?_))))); refine Qq rfl rfl rfl ?_; refine Qq rfl rfl rfl ?_)
        refine QX gorlimb (rlimb_ok (limbs a) i) rfl rfl rfl rfl ?_
        (refine Qq rfl rfl rfl ?_; refine Qq rfl rfl rfl ?_)
        refine QX gorlimb (rlimb_ok (limbs b) i) rfl rfl rfl rfl ?_
        (refine Qw (iadd (by omega) (by omega)) rfl rfl rfl rfl ?_; refine Qq rfl rfl rfl ?_; refine Qw (iadd (by omega) (by omega)) rfl rfl rfl rfl ?_; refine Qv rfl rfl rfl ?_; refine Qj (hK _ _ (Qz (Qy ?_))); clear hK K; refine Qx (fun K hK => ?_); refine Qq rfl rfl rfl ?_; refine Qq rfl rfl rfl ?_; refine Qw (irem (by omega) (by omega)) rfl rfl rfl rfl ?_)
        refine Xx rfl rfl (by with_reducible exact sNat) rfl rfl rfl ?_
        refine Qh zs.length (ints (zs ++ [((limbs a).getD i 0 + (limbs b).getD i 0 + c) % 1073741824])) rfl rfl rfl rfl (by with_reducible exact sNat) (by simp [ints]) rfl (by omega) (by omega) (by simp [ints]) rfl ?_
        (refine Qv rfl rfl rfl ?_; refine Qj (hK _ _ (Qz ?_)); clear hK K; refine Qx (fun K hK => ?_); refine Qq rfl rfl rfl ?_; refine Qw (iquo (by omega) (by omega) (by omega)) rfl rfl rfl rfl ?_; refine Qv rfl rfl rfl ?_; refine Qj (hK _ _ (Qz ?_)); clear hK K; refine Qx (fun K hK => ?_); refine Qq rfl rfl rfl ?_; refine Qw (iadd (by omega) (by omega)) rfl rfl rfl rfl ?_; refine Qv rfl rfl rfl ?_; refine Qj (hK _ _ (Q5 ?_)); clear hK K)
        refine Q8 (i + 1, zs ++ [((limbs a).getD i 0 + (limbs b).getD i 0 + c) % 1073741824], ((limbs a).getD i 0 + (limbs b).getD i 0 + c) / 1073741824) st.1 st.2 (by exact QZ rfl ⟨rfl, rfl, rfl, rfl, by simp only [Int.natCast_add]; rfl, trivial⟩)
      · have fe := fin (by omega)
        refine XW 0 _ rfl (ints_frozen _ _) noBor_sub ?_
        (refine Qe (Qz (Qy (Qx fun K hK => ?_))); refine Qq rfl rfl rfl ?_; refine Qv rfl rfl rfl ?_; refine Qj (hK _ _ (Qz (Q3 ?_))); clear hK K)
        refine QK [_] rfl (QQ rfl Qu) (by rw [fe]; rfl) rfl
theorem gorPlus : InGo Tryz.prog 104 := InGo.of Tryz.func104 (by kernel_rfl) (by kernel_rfl)
end Go.Proofs.YtdhmbgogmoaofaaGreat
