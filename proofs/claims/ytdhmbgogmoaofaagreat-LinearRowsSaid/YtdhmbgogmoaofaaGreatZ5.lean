/- The proof that LinearRows holds for every input, without conditions: part 5 of 6. -/
import Derived.Test.YtdhmbgogmoaofaaGreatZ4
namespace Go.Proofs.YtdhmbgogmoaofaaGreat
open Go.Own Go.Limbs Go.Det
attribute [local irreducible] St Ops Go.Own.Fin Ok OkM
theorem zvOut : (Tryz.prog.info? 46).map (·.zero) = some (some (.agg #[.int .i64 0, .bool false, .slice none 0 0, .slice none 0 0, .slice none 0 0, .slice none 0 0, .slice none 0 0])) := by kernel_rfl
theorem lOut : LdN Tryz.prog 46 7 := LdN.of _ Tryz.underlying46 rfl (by kernel_rfl)
theorem szOut : (Tryz.prog.info? 46).map (·.size) = some 7 := by kernel_rfl
theorem bOut : bInfo Tryz.prog 46 = some (.agg #[.int .i64 0, .bool false, .slice none 0 0, .slice none 0 0, .slice none 0 0, .slice none 0 0, .slice none 0 0], [(0, some 1), (1, some 3), (4, some 1), (5, some 1), (6, some 1)]) := by kernel_rfl
abbrev ocCs (O : Oc) : List CT := [intC O.kind, boolC O.value.neg, natC O.value.num, natC O.value.den, fracsC O.point, fracsC O.ray, fracsC O.dual]
abbrev ocC (O : Oc) : CT := .fr (aggT (ocCs O))
def oc0 : Oc := ⟨0, frz0, [], [], []⟩
theorem w_nat0 : ∀ S w v, (CT.ex (.slice none 0 0)).p S w v → (natC 0).p S w v := by rw [natC_zero]; exact w_nil
theorem goSolve : InGo Tryz.prog 22 := InGo.of Tryz.func22 (by kernel_rfl) (by kernel_rfl)
theorem stOut_none {T E : Tv} {art : Int} (h : stRes T E = false) : stOut T E art = E := by
  unfold stRes at h
  rw [Bool.or_eq_false_iff] at h
  have h1 := of_decide_eq_false h.1
  have h2 : E.at (T.bas.length + 1) (T.col.length + 1) < 0 := by
    have := h.2
    simpa using this
  unfold stOut
  rw [if_neg h1, if_pos h2]
theorem lp_rw {n : Nat} {rs : List Rw} {c : List Int} (h : LpOk n rs c) : (∀ r ∈ rs, OkRw n r) ∧ Okc c := by
  have big : ∀ z : Int, z.natAbs ≤ 4503599627370496 → -1152921504606846976 ≤ z ∧ z ≤ 1152921504606846976 := fun z hz => by omega
  have ok : ∀ xs : List Int, (∀ i, (xs.getD i 0).natAbs ≤ 1048576) → Okc xs := fun xs hx x hm => by
    obtain ⟨i, hi, rfl⟩ := List.getElem_of_mem hm
    have := hx i
    rw [List.getD_eq_getElem?_getD, List.getElem?_eq_getElem hi] at this
    exact big _ (Nat.le_trans this (by decide))
  exact ⟨fun r hr => ⟨h.rl r hr, ok _ (h.rb r hr), (big _ (h.bb r hr)).1, (big _ (h.bb r hr)).2⟩, ok _ h.cb⟩
theorem wh_of {T T0 : Tv} (h1 : T.rows = T0.rows) (h2 : T.bas = T0.bas) (h3 : T.col = T0.col) (h4 : T.den = T0.den) : T = T0.wh T := by
  cases T; cases T0
  simp only at h1 h2 h3 h4
  subst h1; subst h2; subst h3; subst h4
  rfl
def kpB (j : Nat) : Bool := Nat.ble 4 j && Nat.blt j 10
set_option maxHeartbeats 32000000 in
theorem Solve_ok (n : Nat) (rs : List Rw) (c : List Int) (hL : LpOk n rs c) (hv : validR n rs = true) (hc : okCoeffs n c = true) {T0 E F : Tv} {s : Int} (R : SolRun n rs c T0 E F s) : Ok Tryz.prog 22 [intC n, rowsC rs, intsC c] (.fr (tupT [ocC (ocOf n rs.length T0 E F s), intC 0])) := by
  have hn := hL.nn
  have hm := hL.mm
  have hV := LValid_ok n rs (by omega) (fun r hr => by have := hL.rl r hr; omega)
  have hC := validCoeffs_ok n c (by have := hL.cl; omega)
  rw [hv] at hV
  rw [hc] at hC
  have hB := begin_ok n rs c (by omega) (by omega) (lp_rw hL).1 (lp_rw hL).2 hL.cl
  have hGd := R.beg.view.gd (lp_sys hL) R.beg.hl (by rw [R.beg.len]; omega) (by rw [R.beg.col, rng_len]; omega)
  have hT0l := R.beg.len
  have hT0c : T0.col.length = n := by rw [R.beg.col, rng_len]
  have hT0b : T0.bas.length = rs.length := by rw [R.beg.bas, rng_len]
  refine Ok.enter Tryz.func22 rfl _ Tryz.ntmps22 rfl ?_
  intro S w
  (refine St.seq ?_; refine St.regionK (fun K hK => ?_))
  refine Ops.alloc 4 rfl rfl (by with_reducible exact zvOut) rfl rfl rfl ?_
  (refine Ops.assign rfl rfl rfl ?_; refine Ops.nil (hK _ _ ?_); clear hK K; refine Fin.then ?_; refine St.seq ?_; refine St.seq ?_; refine St.regionK (fun K hK => ?_); refine Ops.move rfl rfl rfl ?_; refine Ops.move rfl rfl rfl ?_)
  refine Ops.call goLValid hV rfl rfl rfl rfl ?_
  (refine Ops.inot rfl rfl rfl ?_; refine Ops.move rfl rfl rfl ?_; refine Ops.move rfl rfl rfl ?_; refine Ops.move rfl rfl rfl ?_)
  refine Ops.call govalidCoeffs hC rfl rfl rfl rfl ?_
  (refine Ops.inot rfl rfl rfl ?_; refine Ops.pickF rfl rfl rfl rfl ?_; refine Ops.nil (hK _ _ ?_); clear hK K; refine Fin.then ?_; refine St.condF rfl ?_; refine St.skip ?_; refine Fin.then ?_; refine St.seq ?_; refine St.regionK (fun K hK => ?_); refine Ops.move rfl rfl rfl ?_; refine Ops.lenF rfl rfl (by with_reducible first | exact sNat.und | exact sInts.und | exact sRows.und) (List.length_map ..) rfl ?_; refine Ops.assign rfl rfl rfl ?_; refine Ops.nil (hK _ _ ?_); clear hK K; refine Fin.then ?_; refine St.seq ?_; refine St.regionK (fun K hK => ?_); refine Ops.move rfl rfl rfl ?_; refine Ops.move rfl rfl rfl ?_; refine Ops.move rfl rfl rfl ?_)
  refine Ops.callM [(4, _)] kpB gobegin hB rfl rfl rfl (fun gb hg => hg.elim) (fun _ => rfl) (fun j hj => ?_) (fun j hj => ?_) (fun p hp => absurd hp (by simp)) (fun q j hq => ?_) (fun T hT => ?_)
  · have hj4 : j = 4 := by
      by_cases h4 : 4 = j
      · exact h4.symm
      · rw [bget_cons_ne _ _ h4] at hj; cases hj
    subst hj4
    exact ⟨rfl, fun q => tab_none (by decide) (by decide)⟩
  · unfold kpB at hj
    rw [Bool.and_eq_true] at hj
    exact .inr fun q => tab_none (Nat.le_of_ble_eq_true hj.1) (Nat.le_of_ble_eq_true hj.2)
  · rcases hq with hq | ⟨o, hq⟩ <;> cases hq; rfl
  obtain ⟨H, rfl⟩ : ∃ H : Tv, T = T0.wh H := ⟨T, wh_of (hT.rows.trans R.beg.rows.symm) (hT.bas.trans R.beg.bas.symm) (hT.col.trans R.beg.col.symm) (hT.den.trans R.beg.den.symm)⟩
  have hHl : H.hl.length = T0.rows.length := by have := hT.hl; rw [hT0l]; exact this
  have hst := start_ok (T0.wh H) (E.wh { H with hl := H.hl ++ [default] }) ((n + rs.length : Nat) : Int) (by omega) (by omega) (hGd.fit.wh hHl) (by show T0.rows.length = T0.bas.length + 1; omega) (hGd.wh hHl).short (fun h hh => by
    obtain ⟨gb, hg⟩ := hT.lines h hh
    exact ⟨gb, by rw [hg]; show Value.slice _ (n + 1) (n + 1) = kh gb 0 (T0.col.length + 1) (T0.col.length + 1); rw [hT0c]⟩) (fun hw => by
      rw [show (T0.wh H).bas = T0.bas from rfl, wrS_wh, hT0b] at hw
      exact (R.start hw).wh H hHl) (by show T0.rows.length ≤ 90; omega) (by show T0.col.length ≤ 90; omega)
  rw [stRes_wh] at hst
  refine Ops.reB (B' := [(4, _)] ++ tabB (T0.wh H)) (fun j => tab_swap rfl _ j) ?_
  (refine Ops.assign rfl rfl rfl ?_; refine Ops.nil (hK _ _ ?_); clear hK K; refine Fin.then ?_; refine St.seq ?_; refine St.seq ?_; refine St.regionK (fun K hK => ?_); refine Ops.move rfl rfl rfl ?_; refine Ops.move rfl rfl rfl ?_; refine Ops.move rfl rfl rfl ?_; refine Ops.ibin (iadd (by omega) (by omega)) rfl rfl rfl rfl ?_)
  rw [show (n : Int) + (rs.length : Int) = ((n + rs.length : Nat) : Int) from (Int.natCast_add ..).symm]
  refine Ops.callTab [(4, _)] gostart hst rfl rfl rfl (fun gb hg => hg.elim) rfl rfl (fun p hp => absurd hp (by simp)) (fun H1 hH1 => ?_)
  rw [stOut_wh]
  rw [stOut_rows] at hH1
  have hE := R.eg
  have hRu := R.run
  have hFr := R.fr
  have hoc : ocOf n rs.length T0 E F s = if stRes T0 E = false then ⟨3, frz0, [], [], (duS E n rs.length (rs.length + 1) E.col.length).map ofQ⟩ else if 0 ≤ s then ⟨2, frz0, (ptS F n F.bas.length).map ofQ, (raS F n s.toNat F.bas.length).map ofQ, []⟩ else ⟨1, ofQ (shq (F.at rs.length F.col.length) F.den), (ptS F n F.bas.length).map ofQ, [], (duS F n rs.length rs.length F.col.length).map ofQ⟩ := rfl
  generalize hP : stOut T0 E ((n + rs.length : Nat) : Int) = P at *
  clear hst hV hC hB hGd hT
  cases hres : stRes T0 E with
  | false =>
    rw [if_pos hres] at hoc
    obtain ⟨hGE, hEr, hEc⟩ := hE hres
    rw [stOut_none hres] at hP
    subst hP
    have hdu := dual_ok (E.wh H1) (hGE.wh hH1) n rs.length (rs.length + 1) (by omega) (by omega) (by show _ < E.rows.length; omega) hEc
    rw [duS_wh] at hdu
    (refine Ops.inot rfl rfl rfl ?_; refine Ops.nil (hK _ _ ?_); clear hK K; refine Fin.then ?_; refine St.condT rfl ?_; refine St.seq ?_; refine St.regionK (fun K hK => ?_); refine Ops.move rfl rfl rfl ?_; refine Ops.move rfl rfl rfl ?_; refine Ops.move rfl rfl rfl ?_; refine Ops.move rfl rfl rfl ?_; refine Ops.ibin (iadd (by omega) (by omega)) rfl rfl rfl rfl ?_)
    refine Ops.callTab [(4, _)] godual hdu rfl rfl rfl (fun gb hg => hg.elim) rfl rfl (fun p hp => absurd hp (by simp)) (fun _ _ => ?_)
    refine Ops.build rfl (by with_reducible exact bOut) rfl (.one rfl rfl rfl rfl (.one rfl rfl rfl rfl .nil)) rfl ?_
    refine Ops.stWN 7 rfl rfl rfl rfl rfl (by with_reducible exact szOut) rfl rfl ?_
    (refine Ops.assign rfl rfl rfl ?_; refine Ops.nil (hK _ _ ?_); clear hK K; refine Fin.then ?_; refine St.ret ?_; refine Fin.thenRet ?_)
    have hw : argW [.ex (.int .i64 3), .ex (.bool false), .ex (.slice none 0 0), .ex (.slice none 0 0), .ex (.slice none 0 0), .ex (.slice none 0 0), fracsC ((duS E n rs.length (rs.length + 1) E.col.length).map ofQ)] (ocCs (ocOf n rs.length T0 E F s)) := by
      rw [hoc]; exact ⟨w_same, w_same, w_nat0, w_nat0, w_nil, w_nil, w_same, trivial⟩
    refine Fin.ret [_, _] rfl (AllRes.weak (w_agg hw) (AllRes.cellN rfl rfl lOut rfl (AllRes.tmp rfl AllRes.nil))) rfl rfl
  | true =>
    rw [if_neg (by rw [hres]; decide)] at hoc
    obtain ⟨k, hk⟩ := hRu hres
    obtain ⟨hF1, hF2, hF3, hF4, hF5⟩ := hFr hres
    have hlen := hk.lens
    have hGF := hk.last
    have hG1 := hGF.wh (H := H1) (by rw [hH1, hlen.1])
    have hmx := maximize_ok (P.wh H1) (F.wh H1) rs.length s k (hk.wh hH1) (by show _ < P.rows.length; omega)
    (refine Ops.inot rfl rfl rfl ?_; refine Ops.nil (hK _ _ ?_); clear hK K; refine Fin.then ?_; refine St.condF rfl ?_; refine St.skip ?_; refine Fin.then ?_; refine St.seq ?_; refine St.seq ?_; refine St.regionK (fun K hK => ?_); refine Ops.move rfl rfl rfl ?_; refine Ops.move rfl rfl rfl ?_)
    refine Ops.callTab [(4, _)] gomaximize hmx rfl rfl rfl (fun gb hg => hg.elim) rfl rfl (fun p hp => absurd hp (by simp)) (fun _ _ => ?_)
    have hpt := point_ok (F.wh H1) hG1 n (by omega) hF3
    rw [ptS_wh] at hpt
    (refine Ops.assign rfl rfl rfl ?_; refine Ops.nil (hK _ _ ?_); clear hK K; refine Fin.then ?_; refine St.seq ?_; refine St.regionK (fun K hK => ?_); refine Ops.move rfl rfl rfl ?_; refine Ops.ibin igeq rfl rfl rfl rfl ?_; refine Ops.nil (hK _ _ ?_); clear hK K; refine Fin.then ?_)
    refine St.condP rfl (fun h0 => ?_) (fun h0 => ?_)
    · rw [if_pos h0] at hoc
      obtain ⟨e, rfl⟩ : ∃ e : Nat, s = e := ⟨s.toNat, by omega⟩
      rw [Int.toNat_natCast] at hoc
      have hra := ray_ok (F.wh H1) hG1 n e (by omega) (by show e < F.col.length; omega) hF3 hF2
      rw [raS_wh] at hra
      (refine St.seq ?_; refine St.regionK (fun K hK => ?_); refine Ops.move rfl rfl rfl ?_; refine Ops.move rfl rfl rfl ?_)
      refine Ops.callTab [(4, _)] gopoint hpt rfl rfl rfl (fun gb hg => hg.elim) rfl rfl (fun p hp => absurd hp (by simp)) (fun _ _ => ?_)
      (refine Ops.move rfl rfl rfl ?_; refine Ops.move rfl rfl rfl ?_; refine Ops.move rfl rfl rfl ?_)
      refine Ops.callTab [(4, _)] goray hra rfl rfl rfl (fun gb hg => hg.elim) rfl rfl (fun p hp => absurd hp (by simp)) (fun _ _ => ?_)
      refine Ops.build rfl (by with_reducible exact bOut) rfl (.one rfl rfl rfl rfl (.one rfl rfl rfl rfl (.one rfl rfl rfl rfl .nil))) rfl ?_
      refine Ops.stWN 7 rfl rfl rfl rfl rfl (by with_reducible exact szOut) rfl rfl ?_
      (refine Ops.assign rfl rfl rfl ?_; refine Ops.nil (hK _ _ ?_); clear hK K; refine Fin.then ?_; refine St.ret ?_; refine Fin.thenRet ?_)
      have hw : argW [.ex (.int .i64 2), .ex (.bool false), .ex (.slice none 0 0), .ex (.slice none 0 0), fracsC ((ptS F n F.bas.length).map ofQ), fracsC ((raS F n e F.bas.length).map ofQ), .ex (.slice none 0 0)] (ocCs (ocOf n rs.length T0 E F e)) := by
        rw [hoc]; exact ⟨w_same, w_same, w_nat0, w_nat0, w_same, w_same, w_nil, trivial⟩
      refine Fin.ret [_, _] rfl (AllRes.weak (w_agg hw) (AllRes.cellN rfl rfl lOut rfl (AllRes.tmp rfl AllRes.nil))) rfl rfl
    · rw [if_neg h0] at hoc
      have hdu := dual_ok (F.wh H1) hG1 n rs.length rs.length (by omega) (by omega) (by show _ < F.rows.length; omega) hF2
      rw [duS_wh] at hdu
      have ssh := hGF.short rs.length F.col.length
      have hsh := share_ok (F.wh H1) (F.at rs.length F.col.length) (by omega) hG1.den (Nat.le_trans hG1.dens (by decide))
      have km : (rs.length : Int).toNat * 1 = rs.length := by omega
      have kc : (F.col.length : Int).toNat * 2 = F.col.length * 2 := by omega
      have hrow := hGF.fit.row rs.length (by omega)
      have hthin := hGF.fit.thin
      (refine St.skip ?_; refine Fin.then ?_; refine St.seq ?_)
      refine St.drawL (by with_reducible exact mixed) [15, 18, 23, 25] (.p 0 (.p 1 (.p 2 (.p 3 (.p 5 (.p 8 (.p 9 (.p 10 (.p 16 (.p 17 (.p 19 (.p 20 (.p 21 (.p 22 (.f 4 (.p 6 (.f 7 (.f 11 (.p 12 (.p 13 (.f 14 (.a 15 (.a 18 (.a 23 (.p 24 (.a 25 (.p 26 .done))))))))))))))))))))))))))) (by kernel_rfl) (fun K hK => ?_)
      (refine Ops.move rfl rfl rfl ?_; refine Ops.move rfl rfl rfl ?_; refine Ops.nilCheckO rfl rfl rfl rfl ?_; refine Ops.fldO rfl rfl rfl (by with_reducible first | exact fW0 | exact fW1 | exact fT0 | exact fT1 | exact fT2 | exact fT3 | exact fR0 | exact fR1) rfl ?_; refine Ops.move rfl rfl rfl ?_; refine Ops.move rfl rfl rfl ?_; refine Ops.nilCheckO rfl rfl rfl rfl ?_; refine Ops.fldO rfl rfl rfl (by with_reducible first | exact fW0 | exact fW1 | exact fT0 | exact fT1 | exact fT2 | exact fT3 | exact fR0 | exact fR1) rfl ?_; refine Ops.move rfl rfl rfl ?_; refine Ops.move rfl rfl rfl ?_; refine Ops.move rfl rfl rfl ?_; refine Ops.move rfl rfl rfl ?_; refine Ops.move rfl rfl rfl ?_; refine Ops.move rfl rfl rfl ?_; refine Ops.ld1A rfl rfl rfl rfl rfl (by with_reducible first | exact lInt | exact lNat | exact lBool | exact lInts | exact lMat | exact lWhs) rfl ?_)
      refine Ops.idxK 1 (rs.length + 1) rfl rfl rfl (by rw [List.length_map]; show H1.hl.length = _; rw [hH1, ← hlen.1]; omega) rfl sMat (by omega) (by omega) rfl ?_
      rw [km]
      refine Ops.ld1A rfl rfl rfl rfl (hl_get (by show _ < H1.hl.length; rw [hH1, ← hlen.1]; omega)) lWhs rfl ?_
      (refine Ops.ld1A rfl rfl rfl rfl rfl (by with_reducible first | exact lInt | exact lNat | exact lBool | exact lInts | exact lMat | exact lWhs) rfl ?_)
      refine Ops.lenK 3 F.col.length rfl rfl rfl (by decide) (by show (ints F.col).length = _; simp) sInts.und rfl ?_
      refine Ops.idxK (rs.length + 10) (F.col.length + 1) rfl rfl (lines_get (by show _ < H1.hl.length; rw [hH1, ← hlen.1]; omega) (by show _ < F.rows.length; omega)) (by rw [whs_len]; show (F.rows.getD rs.length []).length * 2 = _; rw [hrow]) rfl sWhs (by omega) (by omega) rfl ?_
      rw [kc]
      refine ldWh rfl rfl rfl (lines_get (by show _ < H1.hl.length; rw [hH1, ← hlen.1]; omega) (by show _ < F.rows.length; omega)) rfl (by show _ < (F.rows.getD rs.length []).length; omega) lWh rfl ?_
      refine Ops.callTab [(4, _)] goshare hsh rfl rfl rfl (fun gb hg => hg.elim) rfl rfl (fun p hp => absurd hp (by simp)) (fun _ _ => ?_)
      refine Ops.callTab [(4, _)] gopoint hpt rfl rfl rfl (fun gb hg => hg.elim) rfl rfl (fun p hp => absurd hp (by simp)) (fun _ _ => ?_)
      refine Ops.callTab [(4, _)] godual hdu rfl rfl rfl (fun gb hg => hg.elim) rfl rfl (fun p hp => absurd hp (by simp)) (fun _ _ => ?_)
      refine Ops.build rfl (by with_reducible exact bOut) rfl (.one rfl rfl rfl rfl (.agg rfl rfl rfl rfl (.one rfl rfl rfl rfl (.one rfl rfl rfl rfl .nil)))) rfl ?_
      refine Ops.stWN 7 rfl rfl rfl rfl rfl (by with_reducible exact szOut) rfl rfl ?_
      (refine Ops.assign rfl rfl rfl ?_; refine Ops.nil (hK _ _ ?_); clear hK K; refine Fin.then ?_; refine St.ret ?_)
      have hw : argW ([.ex (.int .i64 1)] ++ frCs (ofQ (shq (F.at rs.length F.col.length) F.den)) ++ [fracsC ((ptS F n F.bas.length).map ofQ), .ex (.slice none 0 0), fracsC ((duS F n rs.length rs.length F.col.length).map ofQ)]) (ocCs (ocOf n rs.length T0 E F s)) := by
        rw [hoc]; exact ⟨w_same, w_same, w_same, w_same, w_same, w_nil, w_same, trivial⟩
      refine Fin.ret [_, _] rfl (AllRes.weak (w_agg hw) (AllRes.cellN rfl rfl lOut rfl (AllRes.tmp rfl AllRes.nil))) rfl rfl
end Go.Proofs.YtdhmbgogmoaofaaGreat
namespace Go.Proofs.YtdhmbgogmoaofaaGreat
open Go.Own Go.Limbs
attribute [local irreducible] St Ops Go.Own.Fin Ok OkM
theorem fO0 : fldInfo Tryz.prog 46 0 = some (0, some 1) := by kernel_rfl
theorem fO1 : fldInfo Tryz.prog 46 1 = some (1, some 3) := by kernel_rfl
theorem goMaximum : InGo Tryz.prog 26 := InGo.of Tryz.func26 (by kernel_rfl) (by kernel_rfl)
set_option maxHeartbeats 8000000 in
theorem Maximum_of (n : Int) (rs : List Rw) (c : List Int) (O : Oc) (e : Int) (hS : Ok Tryz.prog 22 [intC n, rowsC rs, intsC c] (.fr (tupT [ocC O, intC e]))) :
    Ok Tryz.prog 26 [intC n, rowsC rs, intsC c] (.fr (tupT [fracC O.value, boolC (decide (O.kind = 1)), intC e])) := by
  refine Ok.enter Tryz.func26 rfl _ Tryz.ntmps26 rfl ?_
  intro S w
  (refine St.seq ?_; refine St.regionK (fun K hK => ?_))
  refine Ops.alloc 0 rfl rfl (by with_reducible exact zvFrac) rfl rfl rfl ?_
  (refine Ops.assign rfl rfl rfl ?_; refine Ops.assign rfl rfl rfl ?_; refine Ops.nil (hK _ _ ?_); clear hK K; refine Fin.then ?_; refine St.seq ?_; refine St.regionK (fun K hK => ?_); refine Ops.move rfl rfl rfl ?_; refine Ops.move rfl rfl rfl ?_; refine Ops.move rfl rfl rfl ?_)
  refine Ops.call goSolve hS rfl rfl rfl rfl ?_
  (refine Ops.move rfl rfl rfl ?_; refine Ops.extract rfl rfl rfl rfl ?_; refine Ops.extract rfl rfl rfl rfl ?_)
  refine Ops.alloc 1 rfl rfl (by with_reducible exact zvOut) rfl rfl rfl ?_
  refine Ops.stWN 7 rfl rfl rfl rfl rfl (by with_reducible exact szOut) rfl rfl ?_
  (refine Ops.assign rfl rfl rfl ?_; refine Ops.nil (hK _ _ ?_); clear hK K; refine Fin.then ?_; refine St.seq ?_)
  refine St.drawQ (by with_reducible exact mixed) [6] (.p 0 (.f 1 (.p 2 (.p 5 (.m 3 (.p 4 (.a 6 (.p 7 (.p 8 .done)) .non)) (.a 6 (.m 3 (.p 4 (.p 7 (.p 8 .done))) .non) .non)))))) (by kernel_rfl) (fun K hK => ?_)
  refine (fun (cont : Go.Own.Fin _ [(6, .own 0), (7, .ct (boolC (decide (O.kind = 1)))), (8, .ct (intC e))] [(1, .box 46 (ocCs O)), (0, .box 38 (frCs O.value))] K) => ?_) (hK _ _ ?_)
  rotate_left
  · clear hK K
    (refine Fin.then ?_; refine St.ret ?_)
    refine Fin.ret [_, _, _] rfl (AllRes.cellN rfl rfl lFrac rfl (AllRes.tmp rfl (AllRes.tmp rfl AllRes.nil))) rfl rfl
  clear hK
  refine Fin.qp (Ops.fldO rfl rfl rfl (by with_reducible exact fO1) rfl (Ops.nil ?_))
  refine Fin.qf (Ops.ldNA (n := 3) rfl rfl rfl rfl (Nat.le_of_ble_eq_true rfl) (by with_reducible exact lFrac) rfl (Ops.nil ?_))
  refine Fin.qp (Ops.fldO rfl rfl rfl (by with_reducible exact fO0) rfl (Ops.nil ?_))
  refine Fin.qp (Ops.move rfl rfl rfl (Ops.nil ?_))
  refine Fin.qm ?_ ?_
  · refine Ops.ld1A rfl rfl rfl rfl rfl (by with_reducible exact lInt) rfl (Ops.nil ?_)
    refine Fin.qp (Ops.ibin ieql rfl rfl rfl rfl (Ops.nil ?_))
    refine Fin.qa (Ops.stWN 3 rfl rfl rfl rfl rfl (by with_reducible exact szFrac) rfl rfl (Ops.nil ?_)) Fin.qnon
    refine Fin.qp (Ops.assign rfl rfl rfl (Ops.nil ?_))
    refine Fin.qp (Ops.assign rfl rfl rfl (Ops.nil ?_))
    exact Fin.qdone (Fin.kp cont ⟨rfl, rfl, rfl, trivial⟩)
  · refine Fin.qa (Ops.stWN 3 rfl rfl rfl rfl rfl (by with_reducible exact szFrac) rfl rfl (Ops.nil ?_)) Fin.qnon
    refine Fin.qm ?_ Fin.qnon
    refine Ops.ld1A rfl rfl rfl rfl rfl (by with_reducible exact lInt) rfl (Ops.nil ?_)
    refine Fin.qp (Ops.ibin ieql rfl rfl rfl rfl (Ops.nil ?_))
    refine Fin.qp (Ops.assign rfl rfl rfl (Ops.nil ?_))
    refine Fin.qp (Ops.assign rfl rfl rfl (Ops.nil ?_))
    exact Fin.qdone (Fin.kp cont ⟨rfl, rfl, rfl, trivial⟩)
theorem goFeasible : InGo Tryz.prog 34 := InGo.of Tryz.func34 (by kernel_rfl) (by kernel_rfl)
set_option maxHeartbeats 8000000 in
theorem Feasible_of (n : Int) (rs : List Rw) (O : Oc) (e : Int) (hS : Ok Tryz.prog 22 [intC n, rowsC rs, intsC []] (.fr (tupT [ocC O, intC e]))) :
    Ok Tryz.prog 34 [intC n, rowsC rs] (.fr (tupT [boolC (decide (e = 0) && decide (O.kind ≠ 3)), intC e])) := by
  have hS' := hS.weak (As' := [intC n, rowsC rs, .ex (.slice none 0 0)]) ⟨w_same, w_same, w_nil, trivial⟩
  refine Ok.enter Tryz.func34 rfl _ Tryz.ntmps34 rfl ?_
  intro S w
  (refine St.seq ?_; refine St.regionK (fun K hK => ?_); refine Ops.assign rfl rfl rfl ?_; refine Ops.assign rfl rfl rfl ?_; refine Ops.nil (hK _ _ ?_); clear hK K; refine Fin.then ?_; refine St.seq ?_; refine St.regionK (fun K hK => ?_); refine Ops.move rfl rfl rfl ?_; refine Ops.move rfl rfl rfl ?_)
  refine Ops.call goSolve hS' rfl rfl rfl rfl ?_
  (refine Ops.move rfl rfl rfl ?_; refine Ops.extract rfl rfl rfl rfl ?_; refine Ops.extract rfl rfl rfl rfl ?_)
  refine Ops.alloc 1 rfl rfl (by with_reducible exact zvOut) rfl rfl rfl ?_
  refine Ops.stWN 7 rfl rfl rfl rfl rfl (by with_reducible exact szOut) rfl rfl ?_
  (refine Ops.assign rfl rfl rfl ?_; refine Ops.nil (hK _ _ ?_); clear hK K; refine Fin.then ?_; refine St.seq ?_; refine St.regionK (fun K hK => ?_); refine Ops.move rfl rfl rfl ?_; refine Ops.ibin ieql rfl rfl rfl rfl ?_; refine Ops.move rfl rfl rfl ?_)
  by_cases he : e = 0
  · subst he
    skip
    refine Ops.fldO rfl rfl rfl (by with_reducible exact fO0) rfl ?_
    (refine Ops.ld1A rfl rfl rfl rfl rfl (by with_reducible first | exact lInt | exact lNat | exact lBool | exact lInts | exact lMat | exact lWhs) rfl ?_; refine Ops.ibin ineq rfl rfl rfl rfl ?_; refine Ops.pickT rfl rfl rfl rfl ?_; refine Ops.move rfl rfl rfl ?_; refine Ops.assign rfl rfl rfl ?_; refine Ops.assign rfl rfl rfl ?_; refine Ops.nil (hK _ _ ?_); clear hK K; refine Fin.then ?_; refine St.ret ?_)
    refine Fin.ret [_, _] rfl (AllRes.tmp rfl (AllRes.tmp rfl AllRes.nil)) rfl rfl
  · refine Ops.splitP 16 rfl (fun h => absurd h he) (fun h => ?_)
    (refine Ops.skip rfl rfl rfl ?_; refine Ops.skip rfl rfl rfl ?_; refine Ops.skip rfl rfl rfl ?_; refine Ops.pickF rfl rfl rfl rfl ?_; refine Ops.move rfl rfl rfl ?_; refine Ops.assign rfl rfl rfl ?_; refine Ops.assign rfl rfl rfl ?_; refine Ops.nil (hK _ _ ?_); clear hK K; refine Fin.then ?_; refine St.ret ?_)
    refine Fin.ret [_, _] rfl (AllRes.tmp rfl (AllRes.tmp rfl AllRes.nil)) (by rw [decide_eq_false he]; rfl) rfl
end Go.Proofs.YtdhmbgogmoaofaaGreat
namespace Go.Own
variable {X : Ctx} {L : AL} {B : BL} {ops : Array Oper} {K : Act → World → Prop} {r : Pl} {k : Kd}
  {x y z : Operand} {d : Nat} {t t2 t' : TypeId} {pos : String} {af : Array Edge} {g : Option (Nat × Bool)}
def wneg (p : Int) : Int := IntKind.i64.wrap (-p)
end Go.Own
namespace Go.Proofs.YtdhmbgogmoaofaaGreat
open Go.Own Go.Limbs
attribute [local irreducible] St Ops Go.Own.Fin Ok OkM
def ngP (c : List Int) (i : Nat) : List Int := (List.range c.length).map fun j => if j < i then wneg (c.getD j 0) else 0
def vneg (f : Fr) : Fr := ⟨if f.num = 0 then f.neg else !f.neg, f.num, f.den⟩
end Go.Proofs.YtdhmbgogmoaofaaGreat
namespace Go.Proofs.YtdhmbgogmoaofaaGreat
open Go.Own Go.Limbs
attribute [local irreducible] St Ops Go.Own.Fin Ok OkM
set_option maxHeartbeats 4000000 in
theorem FAdd_fine (f h : Fr) (h1 : (limbs f.num).length + (limbs h.den).length ≤ 63) (h3 : (limbs h.num).length + (limbs f.den).length ≤ 63) (hs2 : (limbs f.den).length + (limbs h.den).length ≤ 64) (d1 : 0 < f.den) (d2 : 0 < h.den) :
    Ok Tryz.prog 60 [fracC f, fracC h] (.fr (tupT [ratC (qv f + qv h), intC 0])) := by
  have hp := Nat.mul_pos d1 d2
  have l1 : (limbs (f.num * h.den)).length ≤ 63 := Nat.le_trans limbs_mul_len h1
  have l2 : (limbs (h.num * f.den)).length ≤ 63 := Nat.le_trans limbs_mul_len h3
  have l3 := sumN_len (n1 := f.neg) (n2 := h.neg) l1 l2
  have l8 := limbs_mul_len (a := f.den) (b := h.den)
  have l4 := redF_den (sumS f.neg (f.num * h.den) h.neg (h.num * f.den)) (sumN f.neg (f.num * h.den) h.neg (h.num * f.den)) _ hp
  have l5 := redF_neg (sumS f.neg (f.num * h.den) h.neg (h.num * f.den)) (sumN f.neg (f.num * h.den) h.neg (h.num * f.den)) (f.den * h.den)
  have l6 : (limbs (redF (sumS f.neg (f.num * h.den) h.neg (h.num * f.den)) (sumN f.neg (f.num * h.den) h.neg (h.num * f.den)) (f.den * h.den)).num).length ≤ 64 := div_len l3
  have l7 := limbs_len_mono l4.2
  have hr := reduced_ok (sumS f.neg (f.num * h.den) h.neg (h.num * f.den)) (sumN f.neg (f.num * h.den) h.neg (h.num * f.den)) _ hp (by omega) (by omega)
  show Ok Tryz.prog 60 [fracC f, fracC h] (.fr (tupT [fracC (ofQ (qv f + qv h)), intC 0]))
  rw [← redF_add f h d1 d2]
  refine Ok.enter Tryz.func60 rfl _ Tryz.ntmps60 rfl ?_
  intro S w
  generalize redF (sumS f.neg (f.num * h.den) h.neg (h.num * f.den)) (sumN f.neg (f.num * h.den) h.neg (h.num * f.den)) (f.den * h.den) = rr at *
  (refine St.seq ?_; refine St.regionK (fun K hK => ?_); refine Ops.boxN 0 rfl rfl rfl rfl rfl rfl rfl ?_; refine Ops.boxN 1 rfl rfl rfl rfl rfl rfl rfl ?_; refine Ops.alloc 2 rfl rfl (by with_reducible first | exact zvFrac) rfl rfl rfl ?_; refine Ops.assign rfl rfl rfl ?_; refine Ops.nil (hK _ _ ?_); clear hK K; refine Fin.then ?_; refine St.seq ?_)
  refine St.drawK (by with_reducible exact mixed) 20 (.p 0 (.p 2 (.p 4 (.p 7 (.p 9 (.p 11 (.f 1 (.f 3 (.f 5 (.f 8 (.f 10 (.f 12 (.m 6 (.m 13 (.m 14 (.p 15 (.p 16 (.p 17 (.p 18 (.p 19 .done)))))))))))))))))))) (by kernel_rfl) (fun K hK => ?_)
  (refine Ops.fldO rfl rfl rfl (by with_reducible first | exact fF0 | exact fF1 | exact fF2 | exact fR0 | exact fR1) rfl ?_; refine Ops.fldO rfl rfl rfl (by with_reducible first | exact fF0 | exact fF1 | exact fF2 | exact fR0 | exact fR1) rfl ?_; refine Ops.fldO rfl rfl rfl (by with_reducible first | exact fF0 | exact fF1 | exact fF2 | exact fR0 | exact fR1) rfl ?_; refine Ops.fldO rfl rfl rfl (by with_reducible first | exact fF0 | exact fF1 | exact fF2 | exact fR0 | exact fR1) rfl ?_; refine Ops.fldO rfl rfl rfl (by with_reducible first | exact fF0 | exact fF1 | exact fF2 | exact fR0 | exact fR1) rfl ?_; refine Ops.fldO rfl rfl rfl (by with_reducible first | exact fF0 | exact fF1 | exact fF2 | exact fR0 | exact fR1) rfl ?_; refine Ops.ld1A rfl rfl rfl rfl rfl (by with_reducible first | exact lInt | exact lNat | exact lBool | exact lInts) rfl ?_; refine Ops.ld1A rfl rfl rfl rfl rfl (by with_reducible first | exact lInt | exact lNat | exact lBool | exact lInts) rfl ?_; refine Ops.ld1A rfl rfl rfl rfl rfl (by with_reducible first | exact lInt | exact lNat | exact lBool | exact lInts) rfl ?_; refine Ops.ld1A rfl rfl rfl rfl rfl (by with_reducible first | exact lInt | exact lNat | exact lBool | exact lInts) rfl ?_; refine Ops.ld1A rfl rfl rfl rfl rfl (by with_reducible first | exact lInt | exact lNat | exact lBool | exact lInts) rfl ?_; refine Ops.ld1A rfl rfl rfl rfl rfl (by with_reducible first | exact lInt | exact lNat | exact lBool | exact lInts) rfl ?_)
  refine Ops.call goproduct (product_ok f.num h.den (by omega)) rfl rfl rfl rfl ?_
  skip
  refine Ops.call goproduct (product_ok h.num f.den (by omega)) rfl rfl rfl rfl ?_
  skip
  refine Ops.call gosum (sum_ok _ _ _ _ (by omega) (by omega)) rfl rfl rfl rfl ?_
  (refine Ops.move rfl rfl rfl ?_; refine Ops.extract rfl rfl rfl rfl ?_; refine Ops.extract rfl rfl rfl rfl ?_; refine Ops.assign rfl rfl rfl ?_; refine Ops.assign rfl rfl rfl ?_; refine Ops.nil (hK _ _ ?_); clear hK K; refine Fin.then ?_; refine St.seq ?_; refine St.regionK (fun K hK => ?_); refine Ops.move rfl rfl rfl ?_; refine Ops.move rfl rfl rfl ?_; refine Ops.fldO rfl rfl rfl (by with_reducible first | exact fF0 | exact fF1 | exact fF2 | exact fR0 | exact fR1) rfl ?_; refine Ops.ld1A rfl rfl rfl rfl rfl (by with_reducible first | exact lInt | exact lNat | exact lBool | exact lInts) rfl ?_; refine Ops.fldO rfl rfl rfl (by with_reducible first | exact fF0 | exact fF1 | exact fF2 | exact fR0 | exact fR1) rfl ?_; refine Ops.ld1A rfl rfl rfl rfl rfl (by with_reducible first | exact lInt | exact lNat | exact lBool | exact lInts) rfl ?_)
  refine Ops.call goproduct (product_ok f.den h.den (by omega)) rfl rfl rfl rfl ?_
  skip
  refine Ops.call goreduced hr rfl rfl rfl rfl ?_
  refine Ops.call gochecked (checked_ok rr (by omega) (by omega) l4.1 l5) rfl rfl rfl rfl ?_
  (refine Ops.extract rfl rfl rfl rfl ?_; refine Ops.extract rfl rfl rfl rfl ?_; refine Ops.stWN 3 rfl rfl rfl rfl rfl (by with_reducible exact szFrac) rfl rfl ?_; refine Ops.assign rfl rfl rfl ?_; refine Ops.nil (hK _ _ ?_); clear hK K; refine Fin.then ?_; refine St.ret ?_)
  refine Fin.ret [_, _] rfl (AllRes.cellN (n := 3) rfl rfl (by with_reducible exact lFrac) rfl (AllRes.tmp rfl AllRes.nil)) rfl rfl
def psum (c : List Int) (xs : List Fr) : Nat → Rat
  | 0 => 0
  | k + 1 => psum c xs k + (c.getD k 0 : Rat) * qv (xs.getD k fr0)
def vsum (c : List Int) (xs : List Fr) : Rat := psum c xs (min c.length xs.length)
structure VFit (c : List Int) (xs : List Fr) : Prop where
  cl : c.length ≤ 1000
  xl : xs.length ≤ 1000
  cb : ∀ i, -9223372036854775808 ≤ c.getD i 0 ∧ c.getD i 0 ≤ 9223372036854775807
  den : ∀ k, k < min c.length xs.length → 0 < (xs.getD k fr0).den
  mn : ∀ k, k < min c.length xs.length → (limbs (ofQ (c.getD k 0 : Rat)).num).length + (limbs (xs.getD k fr0).num).length ≤ 64
  md : ∀ k, k < min c.length xs.length → 1 + (limbs (xs.getD k fr0).den).length ≤ 64
  a1 : ∀ k, k < min c.length xs.length → (limbs (ofQ (psum c xs k)).num).length + (limbs (ofQ ((c.getD k 0 : Rat) * qv (xs.getD k fr0))).den).length ≤ 63
  a2 : ∀ k, k < min c.length xs.length → (limbs (ofQ ((c.getD k 0 : Rat) * qv (xs.getD k fr0))).num).length + (limbs (ofQ (psum c xs k)).den).length ≤ 63
  a3 : ∀ k, k < min c.length xs.length → (limbs (ofQ (psum c xs k)).den).length + (limbs (ofQ ((c.getD k 0 : Rat) * qv (xs.getD k fr0))).den).length ≤ 64
theorem divInt_one (n : Int) : Rat.divInt n 1 = (n : Rat) := Rat.num_divInt_den (n : Rat)
theorem ofQ_den (q : Rat) : 0 < (ofQ q).den := q.den_pos
theorem ofQ_int_den (n : Int) : (ofQ (n : Rat)).den = 1 := rfl
theorem From_int (n : Int) (h1 : -9223372036854775808 ≤ n) (h2 : n ≤ 9223372036854775807) : Ok Tryz.prog 58 [intC n, intC 1] (.fr (tupT [ratC (n : Rat), intC 0])) := by
  have := FFrom_ok n 1 h1 h2 (by decide) (by decide) (by decide)
  rw [divInt_one] at this; exact this
set_option maxHeartbeats 8000000 in
theorem Value_gen (c : List Int) (xs : List Fr) (H : VFit c xs) : Ok Tryz.prog 17 [intsC c, fracsC xs] (.fr (tupT [ratC (vsum c xs), intC 0])) := by
  have hcl := H.cl
  have hxl := H.xl
  refine Ok.enter Tryz.func17 rfl _ Tryz.ntmps17 rfl ?_
  intro S w
  (refine St.seq ?_; refine St.regionK (fun K hK => ?_); refine Ops.alloc 0 rfl rfl (by with_reducible first | exact zvFrac) rfl rfl rfl ?_; refine Ops.assign rfl rfl rfl ?_; refine Ops.nil (hK _ _ ?_); clear hK K; refine Fin.then ?_; refine St.seq ?_; refine St.regionK (fun K hK => ?_))
  refine Ops.call goFFrom (From_int 0 (by decide) (by decide)) rfl rfl rfl rfl ?_
  (refine Ops.move rfl rfl rfl ?_; refine Ops.extract rfl rfl rfl rfl ?_; refine Ops.extract rfl rfl rfl rfl ?_; refine Ops.alloc 1 rfl rfl (by with_reducible first | exact zvFrac) rfl rfl rfl ?_; refine Ops.stWN 3 rfl rfl rfl rfl rfl (by with_reducible exact szFrac) rfl rfl ?_; refine Ops.assign rfl rfl rfl ?_; refine Ops.nil (hK _ _ ?_); clear hK K; refine Fin.then ?_; refine St.seq ?_; refine St.seq ?_; refine St.regionK (fun K hK => ?_); refine Ops.move rfl rfl rfl ?_; refine Ops.lenF rfl rfl (by with_reducible first | exact sNat.und | exact sInts.und) (List.length_map ..) rfl ?_; refine Ops.move rfl rfl rfl ?_; refine Ops.lenF rfl rfl (by with_reducible first | exact sFracs.und | exact sRows.und) (List.length_map ..) rfl ?_; refine Ops.min2 rfl rfl rfl rfl ?_; refine Ops.move rfl rfl rfl ?_; refine Ops.nil (hK _ _ ?_); clear hK K; refine Fin.then ?_; refine St.block ?_)
  refine St.loop (α := Nat) (fun i => i ≤ min c.length xs.length)
    (fun i => [(0, .ct (intsC c)), (1, .ct (fracsC xs)), (4, .own 0), (6, .own 1), (19, .ct (intC (min (c.length : Int) xs.length))), (20, .ct (intC i))])
    (fun i => [(1, .box 38 (frCs (ofQ (psum c xs i)))), (0, .box 38 [.ex (.bool false), .ex (.slice none 0 0), .ex (.slice none 0 0)])]) (fun i => min c.length xs.length - i) 0 (Nat.zero_le _) (by exact Entails.of rfl ⟨rfl, rfl, rfl, rfl, rfl, rfl, trivial⟩) ?_
  intro i hi
  (try dsimp only at hi ⊢)
  have es : psum c xs (i + 1) = psum c xs i + (c.getD i 0 : Rat) * qv (xs.getD i fr0) := rfl
  (refine St.seq ?_; refine St.regionK (fun K hK => ?_); refine Ops.ibin ilss rfl rfl rfl rfl ?_; refine Ops.nil (hK _ _ ?_); clear hK K; refine Fin.then ?_; refine St.seq ?_)
  refine St.condP rfl (fun h => ?_) (fun h => ?_)
  · have e2 : (i : Int).toNat = i := Int.toNat_natCast i
    have hi2 : i < min c.length xs.length := by omega
    have hcb := H.cb i
    have hM := FMul_gen (ofQ (c.getD i 0 : Rat)) (xs.getD i fr0) (H.mn i hi2) (by rw [ofQ_int_den]; have := H.md i hi2; have e : (limbs 1).length ≤ 1 := limbs_length_le (by decide); omega) (ofQ_den _) (H.den i hi2)
    rw [qv_ofQ] at hM
    have hA := FAdd_fine (ofQ (psum c xs i)) (ofQ ((c.getD i 0 : Rat) * qv (xs.getD i fr0))) (H.a1 i hi2) (H.a2 i hi2) (H.a3 i hi2) (ofQ_den _) (ofQ_den _)
    rw [qv_ofQ, qv_ofQ, ← es] at hA
    (refine St.skip ?_; refine Fin.then ?_; refine St.seq ?_; refine St.block ?_; refine St.seq ?_; refine St.regionK (fun K hK => ?_); refine Ops.move rfl rfl rfl ?_; refine Ops.assign rfl rfl rfl ?_; refine Ops.nil (hK _ _ ?_); clear hK K; refine Fin.then ?_; refine St.seq ?_; refine St.regionK (fun K hK => ?_); refine Ops.move rfl rfl rfl ?_; refine Ops.move rfl rfl rfl ?_; refine Ops.idxF rfl rfl rfl (by with_reducible first | exact sNat | exact sInts) (by omega) (ints_at (by omega) (by omega)) rfl ?_; refine Ops.ld1F rfl rfl rfl (by with_reducible first | exact lInt | exact lNat | exact lBool | exact lInts) rfl ?_)
    rw [e2]
    refine Ops.call goFFrom (From_int (c.getD i 0) (by omega) (by omega)) rfl rfl rfl rfl ?_
    (refine Ops.move rfl rfl rfl ?_; refine Ops.extract rfl rfl rfl rfl ?_; refine Ops.extract rfl rfl rfl rfl ?_; refine Ops.alloc 2 rfl rfl (by with_reducible first | exact zvFrac) rfl rfl rfl ?_; refine Ops.stWN 3 rfl rfl rfl rfl rfl (by with_reducible exact szFrac) rfl rfl ?_; refine Ops.assign rfl rfl rfl ?_; refine Ops.nil (hK _ _ ?_); clear hK K; refine Fin.then ?_; refine St.seq ?_; refine St.seq ?_; refine St.regionK (fun K hK => ?_); refine Ops.move rfl rfl rfl ?_; refine Ops.ibin ieql rfl rfl rfl rfl ?_; refine Ops.nil (hK _ _ ?_); clear hK K; refine Fin.then ?_; refine St.condT rfl ?_)
    refine St.drawK (by with_reducible exact mixed) 9 (.p 1 (.p 2 (.p 3 (.f 0 (.f 4 (.m 5 (.p 6 (.p 7 (.p 8 (.a 9 (.p 10 .done))))))))))) (by kernel_rfl) (fun K hK => ?_)
    (refine Ops.move rfl rfl rfl ?_; refine Ops.move rfl rfl rfl ?_; refine Ops.idxF rfl rfl rfl (by with_reducible exact sFracs) (by omega) (fracs_at (by omega) (by omega)) rfl ?_; refine Ops.ldNO (n := 3) rfl rfl rfl rfl rfl (by with_reducible exact lFrac) rfl ?_; refine Ops.ldNF (n := 3) rfl rfl rfl (by with_reducible exact lFrac) rfl rfl ?_)
    rw [e2]
    skip
    refine Ops.call goFMul hM rfl rfl rfl rfl ?_
    (refine Ops.move rfl rfl rfl ?_; refine Ops.extract rfl rfl rfl rfl ?_; refine Ops.extract rfl rfl rfl rfl ?_; refine Ops.stWN 3 rfl rfl rfl rfl rfl (by with_reducible exact szFrac) rfl rfl ?_; refine Ops.assign rfl rfl rfl ?_; refine Ops.nil (hK _ _ ?_); clear hK K; refine Fin.then ?_; refine St.seq ?_; refine St.seq ?_; refine St.regionK (fun K hK => ?_); refine Ops.move rfl rfl rfl ?_; refine Ops.ibin ieql rfl rfl rfl rfl ?_; refine Ops.nil (hK _ _ ?_); clear hK K; refine Fin.then ?_; refine St.condT rfl ?_; refine St.regionK (fun K hK => ?_); refine Ops.ldNO (n := 3) rfl rfl rfl rfl rfl (by with_reducible exact lFrac) rfl ?_; refine Ops.ldNO (n := 3) rfl rfl rfl rfl rfl (by with_reducible exact lFrac) rfl ?_)
    refine Ops.call goFAdd hA rfl rfl rfl rfl ?_
    (refine Ops.move rfl rfl rfl ?_; refine Ops.extract rfl rfl rfl rfl ?_; refine Ops.extract rfl rfl rfl rfl ?_; refine Ops.stWN 3 rfl rfl rfl rfl rfl (by with_reducible exact szFrac) rfl rfl ?_; refine Ops.assign rfl rfl rfl ?_; refine Ops.nil (hK _ _ ?_); clear hK K; refine Fin.then ?_; refine St.seq ?_; refine St.regionK (fun K hK => ?_); refine Ops.move rfl rfl rfl ?_; refine Ops.ibin ineq rfl rfl rfl rfl ?_; refine Ops.nil (hK _ _ ?_); clear hK K; refine Fin.then ?_; refine St.condF rfl ?_; refine St.skip ?_; refine Fin.then ?_; refine St.regionK (fun K hK => ?_); refine Ops.ibin (iadd (by omega) (by omega)) rfl rfl rfl rfl ?_; refine Ops.move rfl rfl rfl ?_; refine Ops.nil (hK _ _ ?_); clear hK K; refine Fin.thenN ?_)
    refine Fin.dropB 2 ?_
    refine Fin.next (i + 1) (by omega) (by omega) (by exact Entails.of rfl ⟨rfl, rfl, rfl, rfl, rfl, by simp only [Int.natCast_add]; rfl, trivial⟩)
  · have hi' : i = min c.length xs.length := by omega
    (refine St.exit ?_; refine Fin.then ?_; refine St.seq ?_; refine St.regionK (fun K hK => ?_); refine Ops.ldNO (n := 3) rfl rfl rfl rfl rfl (by with_reducible exact lFrac) rfl ?_; refine Ops.stWN 3 rfl rfl rfl rfl rfl (by with_reducible exact szFrac) rfl rfl ?_; refine Ops.assign rfl rfl rfl ?_; refine Ops.nil (hK _ _ ?_); clear hK K; refine Fin.then ?_; refine St.ret ?_)
    refine Fin.ret [_, _] rfl (AllRes.cellN (n := 3) rfl rfl (by with_reducible exact lFrac) rfl (AllRes.tmp rfl AllRes.nil)) (by unfold vsum; rw [hi']; rfl) rfl
end Go.Proofs.YtdhmbgogmoaofaaGreat
namespace Go.Proofs.YtdhmbgogmoaofaaGreat
open Go.Own Go.Limbs
attribute [local irreducible] St Ops Go.Own.Fin Ok OkM
def cmpQ (p q : Rat) : Int := (p.num * q.den - q.num * p.den).sign
theorem sg_sign (n : Bool) (a : Nat) : (sg n a).sign = if a = 0 then 0 else if n then -1 else 1 := by
  unfold sg
  by_cases h : a = 0
  · rw [if_pos h, h]; cases n <;> rfl
  · rw [if_neg h]
    cases n with
    | true => rw [if_pos rfl, if_pos rfl]; exact Int.sign_eq_neg_one_of_neg (by omega)
    | false => rw [if_neg (by decide), if_neg (by decide)]; exact Int.sign_eq_one_of_pos (by omega)
theorem sg_not (n : Bool) (a : Nat) : sg (!n) a = -sg n a := by cases n <;> simp [sg]
theorem FCompare_q (p q : Rat) (h1 : (limbs (ofQ p).num).length ≤ 90) (h2 : (limbs (ofQ p).den).length ≤ 90) (h3 : (limbs (ofQ q).num).length ≤ 90) (h4 : (limbs (ofQ q).den).length ≤ 90) : Ok Tryz.prog 65 [ratC p, ratC q] (.fr (tupT [intC (cmpQ p q), intC 0])) := by
  have h := FCompare_gen (ofQ p) (ofQ q) h1 h2 h3 h4
  have e : cmpQ p q = if sumN (ofQ p).neg ((ofQ p).num * (ofQ q).den) (!(ofQ q).neg) ((ofQ q).num * (ofQ p).den) = 0 then 0 else if sumS (ofQ p).neg ((ofQ p).num * (ofQ q).den) (!(ofQ q).neg) ((ofQ q).num * (ofQ p).den) then -1 else 1 := by
    have e1 := sum_sg (ofQ p).neg ((ofQ p).num * (ofQ q).den) (!(ofQ q).neg) ((ofQ q).num * (ofQ p).den)
    rw [← sg_sign, e1, sg_not, sg_mul, sg_mul, ofQ_sg, ofQ_sg]
    unfold cmpQ
    congr 1
  rw [e]; exact h
structure VF (f : Fr) : Prop where
  num : (limbs f.num).length ≤ 64
  den : (limbs f.den).length ≤ 64
  pos : 0 < f.den
  neg : f.neg = true → f.num ≠ 0
theorem VF.list {f : Fr} (h : VF f) : fvalidL f.neg (limbs f.num) (limbs f.den) = true := by
  unfold fvalidL
  have h3 := limbs_len_pos (n := f.den)
  have h4 := limbs_len_pos (n := f.num)
  have h1 := h.num
  have h2 := h.den
  have hp := h.pos
  rw [validL_limbs (by omega), validL_limbs (by omega), decide_eq_true h1, decide_eq_true h2, decide_eq_true (h3.2 (by omega))]
  cases hn : f.neg with
  | false => rfl
  | true => rw [decide_eq_false (fun h5 => by have := h4.2 (h.neg hn); omega)]; rfl
theorem FValid_V (f : Fr) (h : VF f) : Ok Tryz.prog 64 [fracC f] (boolC true) := by
  have := FValid_list f.neg (limbs f.num) (limbs f.den) (by have := h.num; omega) (by have := h.den; omega)
  rw [h.list] at this; exact this
theorem Satisfies1_V (f : Fr) (h : VF f) : Ok Tryz.prog 63 [fracC f] (boolC f.neg) := by
  refine Ok.enter Tryz.func63 rfl _ Tryz.ntmps63 rfl ?_
  intro S w
  (refine St.seq ?_; refine St.regionK (fun K hK => ?_); refine Ops.boxN 0 rfl rfl rfl rfl rfl rfl rfl ?_; refine Ops.assign rfl rfl rfl ?_; refine Ops.nil (hK _ _ ?_); clear hK K; refine Fin.then ?_; refine St.seq ?_; refine St.regionK (fun K hK => ?_); refine Ops.ldNO (n := 3) rfl rfl rfl rfl rfl (by with_reducible exact lFrac) rfl ?_)
  refine Ops.call goFValid (FValid_V f h) rfl rfl rfl rfl ?_
  (refine Ops.inot rfl rfl rfl ?_; refine Ops.move rfl rfl rfl ?_; refine Ops.fldO rfl rfl rfl (by with_reducible first | exact fF0 | exact fF1 | exact fF2 | exact fR0 | exact fR1) rfl ?_; refine Ops.ld1A rfl rfl rfl rfl rfl (by with_reducible first | exact lInt | exact lNat | exact lBool | exact lInts) rfl ?_; refine Ops.pickF rfl rfl rfl rfl ?_; refine Ops.assign rfl rfl rfl ?_; refine Ops.nil (hK _ _ ?_); clear hK K; refine Fin.then ?_; refine St.ret ?_)
  refine Fin.ret [_] rfl (AllRes.tmp rfl AllRes.nil) rfl rfl
def satB (n : Int) (rs : List Rw) (xs : List Fr) : Bool := (validR n rs && decide ((xs.length : Int) = n)) && (!(xs.any fun f => f.neg) && rs.all fun r => decide (cmpQ (vsum r.cs xs) (r.b : Rat) ≤ 0))
structure SFit (rs : List Rw) (xs : List Fr) : Prop where
  v : ∀ r ∈ rs, VFit r.cs xs
  s1 : ∀ r ∈ rs, (limbs (ofQ (vsum r.cs xs)).num).length ≤ 64
  s2 : ∀ r ∈ rs, (limbs (ofQ (vsum r.cs xs)).den).length ≤ 64
theorem int_lens {b : Int} (hb : b.natAbs ≤ 4503599627370496) : (limbs (ofQ (b : Rat)).num).length ≤ 2 ∧ (limbs (ofQ (b : Rat)).den).length ≤ 1 :=
  ⟨limbs_length_le (Nat.lt_of_le_of_lt hb (by decide)), by rw [ofQ_int_den]; exact limbs_length_le (by decide)⟩
set_option maxHeartbeats 8000000 in
theorem Satisfies_gen (n : Int) (rs : List Rw) (xs : List Fr) (hrl : rs.length < 4611686018427387904) (hcl : ∀ r ∈ rs, r.cs.length < 4611686018427387904) (hxl : xs.length ≤ 1000) (hx : ∀ f ∈ xs, VF f) (hS : validR n rs = true → (xs.length : Int) = n → SFit rs xs) :
    Ok Tryz.prog 20 [intC n, rowsC rs, fracsC xs] (boolC (satB n rs xs)) := by
  have hV := LValid_ok n rs hrl hcl
  have hC := ContainsFunc_fracs xs _ (fun f => f.neg) goSatisfies1 (fun f hf => Satisfies1_V f (hx f hf)) (by omega)
  have hsat : satB n rs xs = ((validR n rs && decide ((xs.length : Int) = n)) && (!(xs.any fun f => f.neg) && rs.all fun r => decide (cmpQ (vsum r.cs xs) (r.b : Rat) ≤ 0))) := rfl
  generalize satB n rs xs = res at *
  refine Ok.enter Tryz.func20 rfl _ Tryz.ntmps20 rfl ?_
  intro S w
  cases hv : validR n rs with
  | false =>
    rw [hv] at hV hsat
    (refine St.seq ?_; refine St.regionK (fun K hK => ?_); refine Ops.assign rfl rfl rfl ?_; refine Ops.nil (hK _ _ ?_); clear hK K; refine Fin.then ?_; refine St.seq ?_; refine St.seq ?_; refine St.regionK (fun K hK => ?_); refine Ops.move rfl rfl rfl ?_; refine Ops.move rfl rfl rfl ?_)
    refine Ops.call goLValid hV rfl rfl rfl rfl ?_
    (refine Ops.inot rfl rfl rfl ?_; refine Ops.move rfl rfl rfl ?_; refine Ops.skip rfl rfl rfl ?_; refine Ops.skip rfl rfl rfl ?_; refine Ops.skip rfl rfl rfl ?_; refine Ops.skip rfl rfl rfl ?_; refine Ops.pickT rfl rfl rfl rfl ?_; refine Ops.move rfl rfl rfl ?_; refine Ops.skip rfl rfl rfl ?_; refine Ops.skip rfl rfl rfl ?_; refine Ops.pickT rfl rfl rfl rfl ?_; refine Ops.nil (hK _ _ ?_); clear hK K; refine Fin.then ?_; refine St.condT rfl ?_; refine St.seq ?_; refine St.regionK (fun K hK => ?_); refine Ops.assign rfl rfl rfl ?_; refine Ops.nil (hK _ _ ?_); clear hK K; refine Fin.then ?_; refine St.ret ?_; refine Fin.thenRet ?_)
    refine Fin.ret [_] rfl (AllRes.tmp rfl AllRes.nil) (by rw [hsat]; rfl) rfl
  | true =>
  rw [hv] at hV hsat
  by_cases hn : (xs.length : Int) = n
  · have H := hS hv hn
    obtain ⟨v1, v2, v3, v4⟩ := validR_spec hv
    rw [decide_eq_true hn] at hsat
    cases ha : xs.any (fun f => f.neg) with
    | true =>
      rw [ha] at hC hsat
      (refine St.seq ?_; refine St.regionK (fun K hK => ?_); refine Ops.assign rfl rfl rfl ?_; refine Ops.nil (hK _ _ ?_); clear hK K; refine Fin.then ?_; refine St.seq ?_; refine St.seq ?_; refine St.regionK (fun K hK => ?_); refine Ops.move rfl rfl rfl ?_; refine Ops.move rfl rfl rfl ?_)
      refine Ops.call goLValid hV rfl rfl rfl rfl ?_
      (refine Ops.inot rfl rfl rfl ?_; refine Ops.move rfl rfl rfl ?_; refine Ops.move rfl rfl rfl ?_; refine Ops.lenF rfl rfl (by with_reducible first | exact sFracs.und | exact sRows.und) (List.length_map ..) rfl ?_; refine Ops.move rfl rfl rfl ?_; refine Ops.ibin ineq rfl rfl rfl rfl ?_; refine Ops.pickF rfl rfl rfl rfl ?_; refine Ops.move rfl rfl rfl ?_)
      rw [decide_eq_false (show ¬ ((xs.length : Int) ≠ n) by omega)]
      (refine Ops.move rfl rfl rfl ?_)
      refine Ops.call goContainsFunc_fracs hC rfl rfl rfl rfl ?_
      (refine Ops.pickF rfl rfl rfl rfl ?_; refine Ops.nil (hK _ _ ?_); clear hK K; refine Fin.then ?_; refine St.condT rfl ?_; refine St.seq ?_; refine St.regionK (fun K hK => ?_); refine Ops.assign rfl rfl rfl ?_; refine Ops.nil (hK _ _ ?_); clear hK K; refine Fin.then ?_; refine St.ret ?_; refine Fin.thenRet ?_)
      refine Fin.ret [_] rfl (AllRes.tmp rfl AllRes.nil) (by rw [hsat]; rfl) rfl
    | false =>
      rw [ha] at hC hsat
      have hsat : res = rs.all fun r => decide (cmpQ (vsum r.cs xs) (r.b : Rat) ≤ 0) := by rw [hsat]; simp
      clear ha hS hx
      (refine St.seq ?_; refine St.regionK (fun K hK => ?_); refine Ops.assign rfl rfl rfl ?_; refine Ops.nil (hK _ _ ?_); clear hK K; refine Fin.then ?_; refine St.seq ?_; refine St.seq ?_; refine St.regionK (fun K hK => ?_); refine Ops.move rfl rfl rfl ?_; refine Ops.move rfl rfl rfl ?_)
      refine Ops.call goLValid hV rfl rfl rfl rfl ?_
      (refine Ops.inot rfl rfl rfl ?_; refine Ops.move rfl rfl rfl ?_; refine Ops.move rfl rfl rfl ?_; refine Ops.lenF rfl rfl (by with_reducible first | exact sFracs.und | exact sRows.und) (List.length_map ..) rfl ?_; refine Ops.move rfl rfl rfl ?_; refine Ops.ibin ineq rfl rfl rfl rfl ?_; refine Ops.pickF rfl rfl rfl rfl ?_; refine Ops.move rfl rfl rfl ?_)
      rw [decide_eq_false (show ¬ ((xs.length : Int) ≠ n) by omega)]
      (refine Ops.move rfl rfl rfl ?_)
      refine Ops.call goContainsFunc_fracs hC rfl rfl rfl rfl ?_
      (refine Ops.pickF rfl rfl rfl rfl ?_; refine Ops.nil (hK _ _ ?_); clear hK K; refine Fin.then ?_; refine St.condF rfl ?_; refine St.skip ?_; refine Fin.then ?_; refine St.seq ?_; refine St.seq ?_; refine St.regionK (fun K hK => ?_); refine Ops.move rfl rfl rfl ?_; refine Ops.lenF rfl rfl (by with_reducible first | exact sFracs.und | exact sRows.und) (List.length_map ..) rfl ?_; refine Ops.move rfl rfl rfl ?_; refine Ops.nil (hK _ _ ?_); clear hK K; refine Fin.then ?_; refine St.block ?_)
      refine St.loop (α := Nat) (fun i => i ≤ rs.length ∧ ∀ j, j < i → cmpQ (vsum (rs.getD j rw0).cs xs) ((rs.getD j rw0).b : Rat) ≤ 0)
        (fun i => [(2, .ct (fracsC xs)), (29, .ct (rowsC rs)), (30, .ct (intC rs.length)), (31, .ct (intC i))]) (fun _ => []) (fun i => rs.length - i) 0 ⟨Nat.zero_le _, fun j h => absurd h (Nat.not_lt_zero j)⟩ (by exact Entails.of rfl ⟨rfl, rfl, rfl, rfl, trivial⟩) ?_
      intro i ⟨hi, hj⟩
      (try dsimp only at hi hj ⊢)
      (refine St.seq ?_; refine St.regionK (fun K hK => ?_); refine Ops.ibin ilss rfl rfl rfl rfl ?_; refine Ops.nil (hK _ _ ?_); clear hK K; refine Fin.then ?_; refine St.seq ?_)
      refine St.condP rfl (fun h => ?_) (fun h => ?_)
      · have e2 : (i : Int).toNat = i := Int.toNat_natCast i
        have hlt : i < rs.length := by omega
        have hmem := getD_mem (z := rw0) hlt
        obtain ⟨r1, r2, r3⟩ := v4 (rs.getD i rw0) hmem
        have hVal := Value_gen (rs.getD i rw0).cs xs (H.v _ hmem)
        have hb := int_lens r3
        have hCm := FCompare_q (vsum (rs.getD i rw0).cs xs) ((rs.getD i rw0).b : Rat) (by have := H.s1 _ hmem; omega) (by have := H.s2 _ hmem; omega) (by omega) (by omega)
        have hFr := From_int (rs.getD i rw0).b (by omega) (by omega)
        (refine St.skip ?_; refine Fin.then ?_; refine St.seq ?_; refine St.block ?_; refine St.seq ?_; refine St.regionK (fun K hK => ?_); refine Ops.idxF rfl rfl rfl (by with_reducible exact sRows) (by omega) (rows_at (by omega) (by omega)) rfl ?_; refine Ops.ldNF (n := 2) rfl rfl rfl (by with_reducible exact lRow) rfl rfl ?_; refine Ops.alloc 0 rfl rfl (by with_reducible exact zvRow) rfl rfl rfl ?_; refine Ops.stWN 2 rfl rfl rfl rfl rfl (by with_reducible exact szRow) rfl rfl ?_; refine Ops.nil (hK _ _ ?_); clear hK K; refine Fin.then ?_; refine St.seq ?_; refine St.regionK (fun K hK => ?_); refine Ops.fldO rfl rfl rfl (by with_reducible first | exact fF0 | exact fF1 | exact fF2 | exact fR0 | exact fR1) rfl ?_; refine Ops.ld1A rfl rfl rfl rfl rfl (by with_reducible first | exact lInt | exact lNat | exact lBool | exact lInts) rfl ?_; refine Ops.move rfl rfl rfl ?_)
        rw [e2]
        skip
        refine Ops.call goValue hVal rfl rfl rfl rfl ?_
        (refine Ops.move rfl rfl rfl ?_; refine Ops.extract rfl rfl rfl rfl ?_; refine Ops.extract rfl rfl rfl rfl ?_; refine Ops.alloc 1 rfl rfl (by with_reducible first | exact zvFrac) rfl rfl rfl ?_; refine Ops.stWN 3 rfl rfl rfl rfl rfl (by with_reducible exact szFrac) rfl rfl ?_; refine Ops.assign rfl rfl rfl ?_; refine Ops.nil (hK _ _ ?_); clear hK K; refine Fin.then ?_; refine St.seq ?_; refine St.seq ?_; refine St.regionK (fun K hK => ?_); refine Ops.move rfl rfl rfl ?_; refine Ops.ibin ineq rfl rfl rfl rfl ?_; refine Ops.nil (hK _ _ ?_); clear hK K; refine Fin.then ?_; refine St.condF rfl ?_; refine St.skip ?_; refine Fin.then ?_; refine St.seq ?_; refine St.regionK (fun K hK => ?_); refine Ops.fldO rfl rfl rfl (by with_reducible first | exact fF0 | exact fF1 | exact fF2 | exact fR0 | exact fR1) rfl ?_; refine Ops.ld1A rfl rfl rfl rfl rfl (by with_reducible first | exact lInt | exact lNat | exact lBool | exact lInts) rfl ?_)
        refine Ops.call goFFrom hFr rfl rfl rfl rfl ?_
        (refine Ops.move rfl rfl rfl ?_; refine Ops.extract rfl rfl rfl rfl ?_; refine Ops.extract rfl rfl rfl rfl ?_; refine Ops.alloc 2 rfl rfl (by with_reducible first | exact zvFrac) rfl rfl rfl ?_; refine Ops.stWN 3 rfl rfl rfl rfl rfl (by with_reducible exact szFrac) rfl rfl ?_; refine Ops.assign rfl rfl rfl ?_; refine Ops.nil (hK _ _ ?_); clear hK K; refine Fin.then ?_; refine St.seq ?_; refine St.regionK (fun K hK => ?_); refine Ops.ldNO (n := 3) rfl rfl rfl rfl rfl (by with_reducible exact lFrac) rfl ?_; refine Ops.ldNO (n := 3) rfl rfl rfl rfl rfl (by with_reducible exact lFrac) rfl ?_)
        refine Ops.call goFCompare hCm rfl rfl rfl rfl ?_
        (refine Ops.move rfl rfl rfl ?_; refine Ops.extract rfl rfl rfl rfl ?_; refine Ops.extract rfl rfl rfl rfl ?_; refine Ops.assign rfl rfl rfl ?_; refine Ops.assign rfl rfl rfl ?_; refine Ops.nil (hK _ _ ?_); clear hK K; refine Fin.then ?_; refine St.seq ?_; refine St.regionK (fun K hK => ?_); refine Ops.move rfl rfl rfl ?_; refine Ops.ibin igtr rfl rfl rfl rfl ?_; refine Ops.nil (hK _ _ ?_); clear hK K; refine Fin.then ?_)
        refine St.condP rfl (fun h2 => ?_) (fun h2 => ?_)
        · (refine St.seq ?_; refine St.regionK (fun K hK => ?_); refine Ops.assign rfl rfl rfl ?_; refine Ops.nil (hK _ _ ?_); clear hK K; refine Fin.then ?_; refine St.ret ?_; refine Fin.blockRet ?_; refine Fin.thenRet ?_; refine Fin.thenRet ?_; refine Fin.blockRet ?_; refine Fin.thenRet ?_)
          refine Fin.ret [_] rfl (AllRes.tmp rfl AllRes.nil) (by
            rw [hsat, List.all_eq_false.mpr ⟨_, hmem, by simp only [decide_eq_true_eq]; omega⟩]; rfl) rfl
        · (refine St.skip ?_; refine Fin.then ?_; refine St.regionK (fun K hK => ?_); refine Ops.ibin (iadd (by omega) (by omega)) rfl rfl rfl rfl ?_; refine Ops.move rfl rfl rfl ?_; refine Ops.nil (hK _ _ ?_); clear hK K; refine Fin.thenN ?_)
          refine Fin.dropB 2 (Fin.dropB 1 (Fin.dropB 0 ?_))
          refine Fin.next (i + 1) (by omega) ⟨by omega, ?_⟩ (by exact Entails.of rfl ⟨rfl, rfl, rfl, by simp only [Int.natCast_add]; rfl, trivial⟩)
          intro j hj'
          rcases Nat.lt_or_ge j i with h3 | h3
          · exact hj j h3
          · have : j = i := by omega
            rw [this]; omega
      · have hi' : i = rs.length := by omega
        (refine St.exit ?_; refine Fin.then ?_; refine St.seq ?_; refine St.regionK (fun K hK => ?_); refine Ops.assign rfl rfl rfl ?_; refine Ops.nil (hK _ _ ?_); clear hK K; refine Fin.then ?_; refine St.ret ?_)
        refine Fin.ret [_] rfl (AllRes.tmp rfl AllRes.nil) (by
          rw [hsat, List.all_eq_true.mpr fun r hr => by
            obtain ⟨j, hj2, rfl⟩ := List.getElem_of_mem hr
            have := hj j (by omega)
            simp only [List.getD_eq_getElem?_getD, List.getElem?_eq_getElem hj2, Option.getD_some] at this
            exact decide_eq_true this]; rfl) rfl
  · rw [decide_eq_false hn] at hsat
    (refine St.seq ?_; refine St.regionK (fun K hK => ?_); refine Ops.assign rfl rfl rfl ?_; refine Ops.nil (hK _ _ ?_); clear hK K; refine Fin.then ?_; refine St.seq ?_; refine St.seq ?_; refine St.regionK (fun K hK => ?_); refine Ops.move rfl rfl rfl ?_; refine Ops.move rfl rfl rfl ?_)
    refine Ops.call goLValid hV rfl rfl rfl rfl ?_
    (refine Ops.inot rfl rfl rfl ?_; refine Ops.move rfl rfl rfl ?_; refine Ops.move rfl rfl rfl ?_; refine Ops.lenF rfl rfl (by with_reducible first | exact sFracs.und | exact sRows.und) (List.length_map ..) rfl ?_; refine Ops.move rfl rfl rfl ?_; refine Ops.ibin ineq rfl rfl rfl rfl ?_; refine Ops.pickF rfl rfl rfl rfl ?_; refine Ops.move rfl rfl rfl ?_)
    rw [decide_eq_true (show ((xs.length : Int) ≠ n) by omega)]
    (refine Ops.skip rfl rfl rfl ?_; refine Ops.skip rfl rfl rfl ?_; refine Ops.pickT rfl rfl rfl rfl ?_; refine Ops.nil (hK _ _ ?_); clear hK K; refine Fin.then ?_; refine St.condT rfl ?_; refine St.seq ?_; refine St.regionK (fun K hK => ?_); refine Ops.assign rfl rfl rfl ?_; refine Ops.nil (hK _ _ ?_); clear hK K; refine Fin.then ?_; refine St.ret ?_; refine Fin.thenRet ?_)
    refine Fin.ret [_] rfl (AllRes.tmp rfl AllRes.nil) (by rw [hsat]; rfl) rfl
end Go.Proofs.YtdhmbgogmoaofaaGreat
namespace Go.Proofs.YtdhmbgogmoaofaaGreat
open Go.Own Go.Limbs
attribute [local irreducible] St Ops Go.Own.Fin Ok
theorem rOrder_ok (x y : Int) : Ok Tryz.prog 162 [intC x, intC y] (intC (cmpI x y)) := by
  refine Ok.enter Tryz.func162 rfl _ Tryz.ntmps162 rfl ?_
  intro S w
  (refine St.seq ?_; refine St.regionK (fun K hK => ?_); refine Ops.assign rfl rfl rfl ?_; refine Ops.nil (hK _ _ ?_); clear hK K; refine Fin.then ?_; refine St.seq ?_; refine St.seq ?_; refine St.regionK (fun K hK => ?_); refine Ops.move rfl rfl rfl ?_; refine Ops.move rfl rfl rfl ?_; refine Ops.ibin ilss rfl rfl rfl rfl ?_; refine Ops.nil (hK _ _ ?_); clear hK K; refine Fin.then ?_)
  refine St.condP rfl (fun h => ?_) (fun h => ?_)
  · (refine St.seq ?_; refine St.regionK (fun K hK => ?_); refine Ops.assign rfl rfl rfl ?_; refine Ops.nil (hK _ _ ?_); clear hK K; refine Fin.then ?_; refine St.ret ?_; refine Fin.thenRet ?_)
    refine Fin.ret [_] rfl (AllRes.tmp rfl AllRes.nil) (by rw [cmpI_eq, if_pos h]; rfl) rfl
  · (refine St.skip ?_; refine Fin.then ?_; refine St.seq ?_; refine St.seq ?_; refine St.regionK (fun K hK => ?_); refine Ops.move rfl rfl rfl ?_; refine Ops.move rfl rfl rfl ?_; refine Ops.ibin igtr rfl rfl rfl rfl ?_; refine Ops.nil (hK _ _ ?_); clear hK K; refine Fin.then ?_)
    refine St.condP rfl (fun h2 => ?_) (fun h2 => ?_)
    · (refine St.seq ?_; refine St.regionK (fun K hK => ?_); refine Ops.assign rfl rfl rfl ?_; refine Ops.nil (hK _ _ ?_); clear hK K; refine Fin.then ?_; refine St.ret ?_; refine Fin.thenRet ?_)
      refine Fin.ret [_] rfl (AllRes.tmp rfl AllRes.nil) (by rw [cmpI_eq, if_neg h, if_pos h2]; rfl) rfl
    · (refine St.skip ?_; refine Fin.then ?_; refine St.seq ?_; refine St.regionK (fun K hK => ?_); refine Ops.assign rfl rfl rfl ?_; refine Ops.nil (hK _ _ ?_); clear hK K; refine Fin.then ?_; refine St.ret ?_)
      refine Fin.ret [_] rfl (AllRes.tmp rfl AllRes.nil) (by rw [cmpI_eq, if_neg h, if_neg h2]; rfl) rfl
theorem gorOrder : InGo Tryz.prog 162 := InGo.of Tryz.func162 (by kernel_rfl) (by kernel_rfl)
theorem rTrim_ok (xs : List Int) (hl : xs.length < 4611686018427387904) : Ok Tryz.prog 142 [intsC xs] (intsC (trimL xs)) := by
  refine Ok.enter Tryz.func142 rfl _ Tryz.ntmps142 rfl ?_
  intro S w
  (refine St.seq ?_; refine St.regionK (fun K hK => ?_); refine Ops.assign rfl rfl rfl ?_; refine Ops.nil (hK _ _ ?_); clear hK K; refine Fin.then ?_; refine St.seq ?_; refine St.block ?_)
  refine St.loop (α := List Int) (fun ys => trimL ys = trimL xs ∧ ys.length ≤ xs.length) (fun ys => [(0, .ct (intsC ys))]) (fun _ => []) (fun ys => ys.length) xs ⟨rfl, Nat.le_refl _⟩ (Entails.sub ⟨rfl, trivial⟩) ?_
  intro ys ⟨hy, hle⟩
  (refine St.seq ?_; refine St.seq ?_; refine St.regionK (fun K hK => ?_); refine Ops.move rfl rfl rfl ?_; refine Ops.lenF rfl rfl (by with_reducible first | exact sNat.und | exact sInts.und) (List.length_map ..) rfl ?_; refine Ops.ibin igtr rfl rfl rfl rfl ?_; refine Ops.move rfl rfl rfl ?_)
  refine Ops.splitP 6 rfl (fun h => ?_) (fun h => ?_)
  · have e1 : ((ys.length : Int) - 1).toNat = ys.length - 1 := by omega
    (refine Ops.move rfl rfl rfl ?_; refine Ops.move rfl rfl rfl ?_; refine Ops.lenF rfl rfl (by with_reducible first | exact sNat.und | exact sInts.und) (List.length_map ..) rfl ?_; refine Ops.ibin (isub (by omega) (by omega)) rfl rfl rfl rfl ?_; refine Ops.idxF rfl rfl rfl (by with_reducible first | exact sNat | exact sInts) (by omega) (ints_at (by omega) (by omega)) rfl ?_; refine Ops.ld1F rfl rfl rfl (by with_reducible first | exact lInt | exact lNat | exact lBool | exact lInts) rfl ?_; refine Ops.ibin ieql rfl rfl rfl rfl ?_; refine Ops.pickT rfl rfl rfl rfl ?_; refine Ops.nil (hK _ _ ?_); clear hK K; refine Fin.then ?_)
    refine St.condP rfl (fun h2 => ?_) (fun h2 => ?_)
    · rw [e1] at h2
      (refine St.skip ?_; refine Fin.then ?_; refine St.block ?_; refine St.regionK (fun K hK => ?_); refine Ops.move rfl rfl rfl ?_; refine Ops.move rfl rfl rfl ?_; refine Ops.lenF rfl rfl (by with_reducible first | exact sNat.und | exact sInts.und) (List.length_map ..) rfl ?_; refine Ops.ibin (isub (by omega) (by omega)) rfl rfl rfl rfl ?_)
      refine Ops.cutHi rfl rfl rfl (by with_reducible exact sNat) (by omega) (by simp) rfl ?_
      rw [← List.map_take]
      (refine Ops.assign rfl rfl rfl ?_; refine Ops.nil (hK _ _ ?_); clear hK K; refine Fin.blockN ?_; refine Fin.thenN ?_)
      refine Fin.next (ys.take ((ys.length : Int) - 1).toNat) (by simp; omega) ⟨?_, by simp; omega⟩ (Entails.sub ⟨rfl, trivial⟩)
      rw [e1, ← hy]; exact trim_last (by omega) h2
    · rw [e1] at h2
      (refine St.exit ?_; refine Fin.then ?_; refine St.seq ?_; refine St.regionK (fun K hK => ?_); refine Ops.move rfl rfl rfl ?_; refine Ops.assign rfl rfl rfl ?_; refine Ops.nil (hK _ _ ?_); clear hK K; refine Fin.then ?_; refine St.ret ?_)
      refine Fin.ret [_] rfl (AllRes.tmp rfl AllRes.nil) (by rw [← hy, trim_done (fun _ => h2)]; rfl) rfl
  · (refine Ops.skip rfl rfl rfl ?_; refine Ops.skip rfl rfl rfl ?_; refine Ops.skip rfl rfl rfl ?_; refine Ops.skip rfl rfl rfl ?_; refine Ops.skip rfl rfl rfl ?_; refine Ops.skip rfl rfl rfl ?_; refine Ops.skip rfl rfl rfl ?_; refine Ops.pickF rfl rfl rfl rfl ?_; refine Ops.nil (hK _ _ ?_); clear hK K; refine Fin.then ?_; refine St.condF rfl ?_; refine St.exit ?_; refine Fin.then ?_; refine St.seq ?_; refine St.regionK (fun K hK => ?_); refine Ops.move rfl rfl rfl ?_; refine Ops.assign rfl rfl rfl ?_; refine Ops.nil (hK _ _ ?_); clear hK K; refine Fin.then ?_; refine St.ret ?_)
    refine Fin.ret [_] rfl (AllRes.tmp rfl AllRes.nil) (by rw [← hy, trim_done (fun h3 => absurd h3 (by omega))]; rfl) rfl
theorem gorTrim : InGo Tryz.prog 142 := InGo.of Tryz.func142 (by kernel_rfl) (by kernel_rfl)
set_option maxHeartbeats 2000000 in
theorem rCompare_ok (a b : Nat) (ha : (limbs a).length < 4611686018427387904) (hb : (limbs b).length < 4611686018427387904) : Ok Tryz.prog 143 [natC a, natC b] (intC (cmpI a b)) := by
  refine Ok.enter Tryz.func143 rfl _ Tryz.ntmps143 rfl ?_
  intro S w
  (refine St.seq ?_; refine St.regionK (fun K hK => ?_); refine Ops.assign rfl rfl rfl ?_; refine Ops.nil (hK _ _ ?_); clear hK K; refine Fin.then ?_; refine St.seq ?_; refine St.seq ?_; refine St.regionK (fun K hK => ?_); refine Ops.move rfl rfl rfl ?_; refine Ops.lenF rfl rfl (by with_reducible first | exact sNat.und | exact sInts.und) (List.length_map ..) rfl ?_; refine Ops.move rfl rfl rfl ?_; refine Ops.lenF rfl rfl (by with_reducible first | exact sNat.und | exact sInts.und) (List.length_map ..) rfl ?_; refine Ops.ibin ineq rfl rfl rfl rfl ?_; refine Ops.nil (hK _ _ ?_); clear hK K; refine Fin.then ?_)
  refine St.condP rfl (fun h => ?_) (fun h => ?_)
  · have e : cmpI ((limbs a).length : Int) ((limbs b).length : Int) = cmpI (a : Int) (b : Int) := by
      rcases Nat.lt_trichotomy (limbs a).length (limbs b).length with h1 | h1 | h1
      · have := lt_of_len h1; rw [cmpI_eq, cmpI_eq, if_pos (by omega), if_pos (by omega)]
      · omega
      · have := lt_of_len h1; rw [cmpI_eq, cmpI_eq, if_neg (by omega), if_pos (by omega), if_neg (by omega), if_pos (by omega)]
    (refine St.seq ?_; refine St.regionK (fun K hK => ?_); refine Ops.move rfl rfl rfl ?_; refine Ops.lenF rfl rfl (by with_reducible first | exact sNat.und | exact sInts.und) (List.length_map ..) rfl ?_; refine Ops.move rfl rfl rfl ?_; refine Ops.lenF rfl rfl (by with_reducible first | exact sNat.und | exact sInts.und) (List.length_map ..) rfl ?_)
    refine Ops.call gorOrder (rOrder_ok _ _) rfl rfl rfl rfl ?_
    (refine Ops.assign rfl rfl rfl ?_; refine Ops.nil (hK _ _ ?_); clear hK K; refine Fin.then ?_; refine St.ret ?_; refine Fin.thenRet ?_)
    refine Fin.ret [_] rfl (AllRes.tmp rfl AllRes.nil) (by rw [← e]; rfl) rfl
  · have hl : (limbs a).length = (limbs b).length := by omega
    clear h
    (refine St.skip ?_; refine Fin.then ?_; refine St.seq ?_; refine St.seq ?_; refine St.regionK (fun K hK => ?_); refine Ops.move rfl rfl rfl ?_; refine Ops.lenF rfl rfl (by with_reducible first | exact sNat.und | exact sInts.und) (List.length_map ..) rfl ?_; refine Ops.ibin (isub (by omega) (by omega)) rfl rfl rfl rfl ?_; refine Ops.assign rfl rfl rfl ?_; refine Ops.nil (hK _ _ ?_); clear hK K; refine Fin.then ?_; refine St.block ?_)
    refine St.loop (α := Nat) (fun k => k ≤ (limbs a).length ∧ pre (limbs a) k - pre (limbs b) k = (a : Int) - b)
      (fun k => [(0, .ct (natC a)), (1, .ct (natC b)), (5, .ct (intC ((k : Int) - 1)))]) (fun _ => []) (fun k => k) (limbs a).length ⟨Nat.le_refl _, ?_⟩ (by exact Entails.of rfl ⟨rfl, rfl, rfl, trivial⟩) ?_
    · have e1 := val_eq_pre a
      have e2 := val_eq_pre b
      rw [← hl] at e2; rw [e1, e2]
    intro k ⟨hk, hv⟩
    dsimp only
    (refine St.seq ?_; refine St.seq ?_; refine St.regionK (fun K hK => ?_); refine Ops.move rfl rfl rfl ?_; refine Ops.ibin igeq rfl rfl rfl rfl ?_; refine Ops.nil (hK _ _ ?_); clear hK K; refine Fin.then ?_)
    refine St.condP rfl (fun h => ?_) (fun h => ?_)
    · obtain ⟨q, rfl⟩ : ∃ q, k = q + 1 := ⟨k - 1, by omega⟩
      have e1 : (((q + 1 : Nat) : Int) - 1) = (q : Int) := by omega
      have e2 : (q : Int).toNat = q := Int.toNat_natCast q
      rw [e1]
      (refine St.skip ?_; refine Fin.then ?_; refine St.seq ?_; refine St.block ?_; refine St.seq ?_)
      refine St.drawK (by with_reducible exact mixed) 9 (.p 0 (.p 1 (.p 2 (.p 4 (.p 5 (.p 6 (.f 3 (.f 7 (.p 8 .done))))))))) (by kernel_rfl) (fun K hK => ?_)
      (refine Ops.move rfl rfl rfl ?_; refine Ops.move rfl rfl rfl ?_; refine Ops.idxF rfl rfl rfl (by with_reducible first | exact sNat | exact sInts) (by omega) (ints_at (by omega) (by omega)) rfl ?_; refine Ops.move rfl rfl rfl ?_; refine Ops.move rfl rfl rfl ?_; refine Ops.idxF rfl rfl rfl (by with_reducible first | exact sNat | exact sInts) (by omega) (ints_at (by omega) (by omega)) rfl ?_; refine Ops.ld1F rfl rfl rfl (by with_reducible first | exact lInt | exact lNat | exact lBool | exact lInts) rfl ?_; refine Ops.ld1F rfl rfl rfl (by with_reducible first | exact lInt | exact lNat | exact lBool | exact lInts) rfl ?_; refine Ops.ibin ineq rfl rfl rfl rfl ?_; refine Ops.nil (hK _ _ ?_); clear hK K; refine Fin.then ?_)
      refine St.condP rfl (fun h2 => ?_) (fun h2 => ?_)
      · rw [e2] at h2
        have e : cmpI ((limbs a).getD q 0) ((limbs b).getD q 0) = cmpI (a : Int) (b : Int) := by
          rcases Int.lt_or_gt_of_ne h2 with h3 | h3
          · have := pre_decides (limbs_ok a) (limbs_ok b) h3
            rw [cmpI_eq, cmpI_eq, if_pos h3, if_pos (by omega)]
          · have := pre_decides (limbs_ok b) (limbs_ok a) h3
            rw [cmpI_eq, cmpI_eq, if_neg (by omega), if_pos h3, if_neg (by omega), if_pos (by omega)]
        (refine St.seq ?_)
        refine St.drawK (by with_reducible exact mixed) 10 (.p 0 (.p 1 (.p 2 (.p 4 (.p 5 (.p 6 (.f 3 (.f 7 (.m 8 (.p 9 .done)))))))))) (by kernel_rfl) (fun K hK => ?_)
        (refine Ops.move rfl rfl rfl ?_; refine Ops.move rfl rfl rfl ?_; refine Ops.idxF rfl rfl rfl (by with_reducible first | exact sNat | exact sInts) (by omega) (ints_at (by omega) (by omega)) rfl ?_; refine Ops.move rfl rfl rfl ?_; refine Ops.move rfl rfl rfl ?_; refine Ops.idxF rfl rfl rfl (by with_reducible first | exact sNat | exact sInts) (by omega) (ints_at (by omega) (by omega)) rfl ?_; refine Ops.ld1F rfl rfl rfl (by with_reducible first | exact lInt | exact lNat | exact lBool | exact lInts) rfl ?_; refine Ops.ld1F rfl rfl rfl (by with_reducible first | exact lInt | exact lNat | exact lBool | exact lInts) rfl ?_)
        refine Ops.call gorOrder (rOrder_ok _ _) rfl rfl rfl rfl ?_
        rw [e2]
        (refine Ops.assign rfl rfl rfl ?_; refine Ops.nil (hK _ _ ?_); clear hK K; refine Fin.then ?_; refine St.ret ?_; refine Fin.blockRet ?_; refine Fin.thenRet ?_; refine Fin.thenRet ?_; refine Fin.blockRet ?_; refine Fin.thenRet ?_)
        refine Fin.ret [_] rfl (AllRes.tmp rfl AllRes.nil) (by rw [← e]; rfl) rfl
      · rw [e2] at h2
        (refine St.skip ?_; refine Fin.then ?_; refine St.regionK (fun K hK => ?_); refine Ops.move rfl rfl rfl ?_; refine Ops.ibin (isub (by omega) (by omega)) rfl rfl rfl rfl ?_; refine Ops.assign rfl rfl rfl ?_; refine Ops.nil (hK _ _ ?_); clear hK K; refine Fin.thenN ?_)
        refine Fin.next q (by omega) ⟨by omega, ?_⟩ (by exact Entails.of rfl ⟨rfl, rfl, rfl, trivial⟩)
        rw [pre_succ, pre_succ] at hv
        have : (limbs a).getD q 0 = (limbs b).getD q 0 := Classical.not_not.1 h2
        rw [this] at hv; omega
    · have hk0 : k = 0 := by omega
      subst hk0
      rw [pre_zero, pre_zero] at hv
      (refine St.exit ?_; refine Fin.then ?_; refine St.seq ?_; refine St.regionK (fun K hK => ?_); refine Ops.assign rfl rfl rfl ?_; refine Ops.nil (hK _ _ ?_); clear hK K; refine Fin.then ?_; refine St.ret ?_)
      refine Fin.ret [_] rfl (AllRes.tmp rfl AllRes.nil) (by rw [cmpI_eq, if_neg (by omega), if_neg (by omega)]; rfl) rfl
theorem gorCompare : InGo Tryz.prog 143 := InGo.of Tryz.func143 (by kernel_rfl) (by kernel_rfl)
theorem rlimb_ok (xs : List Int) (i : Nat) : Ok Tryz.prog 141 [intsC xs, intC i] (intC (xs.getD i 0)) := by
  refine Ok.enter Tryz.func141 rfl _ Tryz.ntmps141 rfl ?_
  intro S w
  (refine St.seq ?_; refine St.regionK (fun K hK => ?_); refine Ops.assign rfl rfl rfl ?_; refine Ops.nil (hK _ _ ?_); clear hK K; refine Fin.then ?_; refine St.seq ?_; refine St.seq ?_; refine St.regionK (fun K hK => ?_); refine Ops.move rfl rfl rfl ?_; refine Ops.move rfl rfl rfl ?_; refine Ops.lenF rfl rfl (by with_reducible first | exact sNat.und | exact sInts.und) (List.length_map ..) rfl ?_; refine Ops.ibin ilss rfl rfl rfl rfl ?_; refine Ops.nil (hK _ _ ?_); clear hK K; refine Fin.then ?_)
  refine St.condP rfl (fun h => ?_) (fun h => ?_)
  · have e2 : (i : Int).toNat = i := Int.toNat_natCast i
    (refine St.seq ?_; refine St.regionK (fun K hK => ?_); refine Ops.move rfl rfl rfl ?_; refine Ops.move rfl rfl rfl ?_; refine Ops.idxF rfl rfl rfl (by with_reducible first | exact sNat | exact sInts) (by omega) (ints_at (by omega) (by omega)) rfl ?_; refine Ops.ld1F rfl rfl rfl (by with_reducible first | exact lInt | exact lNat | exact lBool | exact lInts) rfl ?_; refine Ops.assign rfl rfl rfl ?_; refine Ops.nil (hK _ _ ?_); clear hK K; refine Fin.then ?_; refine St.ret ?_; refine Fin.thenRet ?_)
    rw [e2]
    skip
    refine Fin.ret [_] rfl (AllRes.tmp rfl AllRes.nil) rfl rfl
  · (refine St.skip ?_; refine Fin.then ?_; refine St.seq ?_; refine St.regionK (fun K hK => ?_); refine Ops.assign rfl rfl rfl ?_; refine Ops.nil (hK _ _ ?_); clear hK K; refine Fin.then ?_; refine St.ret ?_)
    refine Fin.ret [_] rfl (AllRes.tmp rfl AllRes.nil) (by rw [List.getD_eq_getElem?_getD, List.getElem?_eq_none (by omega)]; rfl) rfl
theorem gorlimb : InGo Tryz.prog 141 := InGo.of Tryz.func141 (by kernel_rfl) (by kernel_rfl)
theorem limbs_top {n : Nat} (h : 0 < (limbs n).length) : (limbs n).getD ((limbs n).length - 1) 0 ≠ 0 := fun h0 => by
  have h1 := trim_last h h0
  rw [trim_of_limbs] at h1
  have h2 := trim_len ((limbs n).take ((limbs n).length - 1))
  rw [h1] at h2
  simp at h2; omega
theorem getD_past {xs : List Int} {i : Nat} (h : xs.length ≤ i) : xs.getD i 0 = 0 := by
  rw [List.getD_eq_getElem?_getD, List.getElem?_eq_none (by omega)]; rfl
set_option maxHeartbeats 2000000 in
theorem rPlus_ok (a b : Nat) (ha : (limbs a).length ≤ 1000000) (hb : (limbs b).length ≤ 1000000) : Ok Tryz.prog 104 [natC a, natC b] (natC (a + b)) := by
  refine Ok.enter Tryz.func104 rfl _ Tryz.ntmps104 rfl ?_
  intro S w
  (refine St.seq ?_; refine St.regionK (fun K hK => ?_); refine Ops.assign rfl rfl rfl ?_; refine Ops.nil (hK _ _ ?_); clear hK K; refine Fin.then ?_; refine St.seq ?_; refine St.regionK (fun K hK => ?_); refine Ops.assign rfl rfl rfl ?_; refine Ops.nil (hK _ _ ?_); clear hK K; refine Fin.then ?_; refine St.seq ?_; refine St.regionK (fun K hK => ?_); refine Ops.assign rfl rfl rfl ?_; refine Ops.nil (hK _ _ ?_); clear hK K; refine Fin.then ?_; refine St.seq ?_; refine St.seq ?_; refine St.regionK (fun K hK => ?_); refine Ops.assign rfl rfl rfl ?_; refine Ops.nil (hK _ _ ?_); clear hK K; refine Fin.then ?_; refine St.block ?_)
  refine St.nilRow 5 0 3 1 rfl rfl rfl ?_
  skip
  refine St.loop (α := Nat × List Int × Int) (fun s => s.2.1.length = s.1 ∧ OKL s.2.1 ∧ 0 ≤ s.2.2 ∧ s.2.2 ≤ 1 ∧ (s.1 ≤ max (limbs a).length (limbs b).length ∨ s.2.2 = 0) ∧ s.1 ≤ max (limbs a).length (limbs b).length + 1 ∧ val s.2.1 + s.2.2 * BB ^ s.1 = pre (limbs a) s.1 + pre (limbs b) s.1 ∧
      (max (limbs a).length (limbs b).length ≤ s.1 → s.2.2 = 0 → trimL s.2.1 = s.2.1))
    (fun s => [(0, .ct (natC a)), (1, .ct (natC b)), (5, .own 0), (6, .ct (intC s.2.2)), (7, .ct (intC s.1))]) (fun s => [(0, .row 3 1 (ints s.2.1))])
    (fun s => 2 * (max (limbs a).length (limbs b).length - s.1) + s.2.2.toNat) (0, [], 0) ⟨rfl, OKL.nil, by decide, by decide, .inr rfl, Nat.zero_le _, by simp [val, pre_zero], fun _ _ => rfl⟩ (by exact Entails.of rfl ⟨rfl, rfl, rfl, rfl, rfl, trivial⟩) ?_
  rintro ⟨i, zs, c⟩ ⟨hz, hok, hc0, hc1, hor, hi, hv, ht⟩
  dsimp only at hz hok hc0 hc1 hor hi hv ht ⊢
  have b1 := (limbs_ok a).get i
  have b2 := (limbs_ok b).get i
  have t1 := limbs_top (n := a)
  have t2 := limbs_top (n := b)
  have p1 := getD_past (xs := limbs a) (i := i)
  have p2 := getD_past (xs := limbs b) (i := i)
  simp only [BB] at b1 b2
  have step : ((i : Int) < (limbs a).length ∨ (i : Int) < (limbs b).length ∨ 0 < c) →
      (2 * (max (limbs a).length (limbs b).length - (i + 1)) + ((((limbs a).getD i 0 + (limbs b).getD i 0 + c) / 1073741824).toNat) < 2 * (max (limbs a).length (limbs b).length - i) + c.toNat) ∧
      ((zs ++ [((limbs a).getD i 0 + (limbs b).getD i 0 + c) % 1073741824]).length = i + 1 ∧ OKL (zs ++ [((limbs a).getD i 0 + (limbs b).getD i 0 + c) % 1073741824]) ∧ 0 ≤ ((limbs a).getD i 0 + (limbs b).getD i 0 + c) / 1073741824 ∧ ((limbs a).getD i 0 + (limbs b).getD i 0 + c) / 1073741824 ≤ 1 ∧ (i + 1 ≤ max (limbs a).length (limbs b).length ∨ ((limbs a).getD i 0 + (limbs b).getD i 0 + c) / 1073741824 = 0) ∧ i + 1 ≤ max (limbs a).length (limbs b).length + 1 ∧ val (zs ++ [((limbs a).getD i 0 + (limbs b).getD i 0 + c) % 1073741824]) + ((limbs a).getD i 0 + (limbs b).getD i 0 + c) / 1073741824 * BB ^ (i + 1) = pre (limbs a) (i + 1) + pre (limbs b) (i + 1) ∧
      (max (limbs a).length (limbs b).length ≤ i + 1 → ((limbs a).getD i 0 + (limbs b).getD i 0 + c) / 1073741824 = 0 → trimL (zs ++ [((limbs a).getD i 0 + (limbs b).getD i 0 + c) % 1073741824]) = zs ++ [((limbs a).getD i 0 + (limbs b).getD i 0 + c) % 1073741824])) := by
    intro hgo
    refine ⟨by omega, by simp [hz], hok.append (OKL.cons (by simp only [BB]; omega) OKL.nil), by omega, by omega, by omega, by omega, ?_, ?_⟩
    · rw [val_append, hz, pre_succ, pre_succ]
      have e := Int.mul_ediv_add_emod ((limbs a).getD i 0 + (limbs b).getD i 0 + c) 1073741824
      clear t1 t2 p1 p2 ht hor hgo
      simp only [val, BB] at *
      generalize ((limbs a).getD i 0 + (limbs b).getD i 0 + c) / 1073741824 = q at *
      generalize ((limbs a).getD i 0 + (limbs b).getD i 0 + c) % 1073741824 = m at *
      grind
    · intro hm hcz
      refine trim_id ?_
      have hx : (limbs a).getD i 0 + (limbs b).getD i 0 + c ≠ 0 := by
        rcases hgo with hg | hg | hg
        · rcases Nat.lt_or_ge (i + 1) (limbs a).length with h5 | h5
          · omega
          · have e5 : (limbs a).length - 1 = i := by omega
            rw [e5] at t1
            have := t1 (by omega); omega
        · rcases Nat.lt_or_ge (i + 1) (limbs b).length with h5 | h5
          · omega
          · have e5 : (limbs b).length - 1 = i := by omega
            rw [e5] at t2
            have := t2 (by omega); omega
        · omega
      omega
  have fin : ¬ ((i : Int) < (limbs a).length ∨ (i : Int) < (limbs b).length ∨ 0 < c) → natC (a + b) = intsC zs := by
    intro hgo
    have hc : c = 0 := by omega
    have h1 := ht (by omega) hc
    rw [hc, Int.zero_mul, pre_all (by omega), pre_all (by omega), val_limbs, val_limbs] at hv
    rw [show intsC zs = intsC (trimL zs) by rw [h1], trim_limbs hok, show (val zs).toNat = a + b by omega]
  have e2 : (i : Int).toNat = i := Int.toNat_natCast i
  clear ht hor t1 t2 p1 p2
  (refine St.seq ?_; refine St.seq ?_; refine St.regionK (fun K hK => ?_); refine Ops.move rfl rfl rfl ?_; refine Ops.move rfl rfl rfl ?_; refine Ops.lenF rfl rfl (by with_reducible first | exact sNat.und | exact sInts.und) (List.length_map ..) rfl ?_; refine Ops.ibin ilss rfl rfl rfl rfl ?_; refine Ops.move rfl rfl rfl ?_)
  refine Ops.splitP 13 rfl (fun g1 => ?_) (fun g1 => ?_)
  · have st := step (.inl g1)
    clear step fin
    (refine Ops.skip rfl rfl rfl ?_; refine Ops.skip rfl rfl rfl ?_; refine Ops.skip rfl rfl rfl ?_; refine Ops.skip rfl rfl rfl ?_; refine Ops.pickT rfl rfl rfl rfl ?_; refine Ops.move rfl rfl rfl ?_; refine Ops.skip rfl rfl rfl ?_; refine Ops.skip rfl rfl rfl ?_; refine Ops.pickT rfl rfl rfl rfl ?_; refine Ops.nil (hK _ _ ?_); clear hK K; refine Fin.then ?_; refine St.condT rfl ?_; refine St.skip ?_; refine Fin.then ?_; refine St.seq ?_; refine St.block ?_; refine St.seq ?_; refine St.regionK (fun K hK => ?_); refine Ops.move rfl rfl rfl ?_; refine Ops.move rfl rfl rfl ?_)
    refine Ops.call gorlimb (rlimb_ok (limbs a) i) rfl rfl rfl rfl ?_
    (refine Ops.move rfl rfl rfl ?_; refine Ops.move rfl rfl rfl ?_)
    refine Ops.call gorlimb (rlimb_ok (limbs b) i) rfl rfl rfl rfl ?_
    (refine Ops.ibin (iadd (by omega) (by omega)) rfl rfl rfl rfl ?_; refine Ops.move rfl rfl rfl ?_; refine Ops.ibin (iadd (by omega) (by omega)) rfl rfl rfl rfl ?_; refine Ops.assign rfl rfl rfl ?_; refine Ops.nil (hK _ _ ?_); clear hK K; refine Fin.then ?_; refine St.seq ?_; refine St.regionK (fun K hK => ?_); refine Ops.move rfl rfl rfl ?_; refine Ops.move rfl rfl rfl ?_; refine Ops.ibin (irem (by omega) (by omega)) rfl rfl rfl rfl ?_)
    refine Ops.lit1 rfl rfl (by with_reducible exact sNat) rfl rfl rfl ?_
    refine Ops.append1 zs.length (ints (zs ++ [((limbs a).getD i 0 + (limbs b).getD i 0 + c) % 1073741824])) rfl rfl rfl rfl (by with_reducible exact sNat) (by simp [ints]) rfl (by omega) (by omega) (by simp [ints]) rfl ?_
    (refine Ops.assign rfl rfl rfl ?_; refine Ops.nil (hK _ _ ?_); clear hK K; refine Fin.then ?_; refine St.regionK (fun K hK => ?_); refine Ops.move rfl rfl rfl ?_; refine Ops.ibin (iquo (by omega) (by omega) (by omega)) rfl rfl rfl rfl ?_; refine Ops.assign rfl rfl rfl ?_; refine Ops.nil (hK _ _ ?_); clear hK K; refine Fin.then ?_; refine St.regionK (fun K hK => ?_); refine Ops.move rfl rfl rfl ?_; refine Ops.ibin (iadd (by omega) (by omega)) rfl rfl rfl rfl ?_; refine Ops.assign rfl rfl rfl ?_; refine Ops.nil (hK _ _ ?_); clear hK K; refine Fin.thenN ?_)
    refine Fin.next (i + 1, zs ++ [((limbs a).getD i 0 + (limbs b).getD i 0 + c) % 1073741824], ((limbs a).getD i 0 + (limbs b).getD i 0 + c) / 1073741824) st.1 st.2 (by exact Entails.of rfl ⟨rfl, rfl, rfl, rfl, by simp only [Int.natCast_add]; rfl, trivial⟩)
  · (refine Ops.move rfl rfl rfl ?_; refine Ops.move rfl rfl rfl ?_; refine Ops.lenF rfl rfl (by with_reducible first | exact sNat.und | exact sInts.und) (List.length_map ..) rfl ?_; refine Ops.ibin ilss rfl rfl rfl rfl ?_; refine Ops.pickF rfl rfl rfl rfl ?_; refine Ops.move rfl rfl rfl ?_)
    refine Ops.splitP 19 rfl (fun g2 => ?_) (fun g2 => ?_)
    · have st := step (.inr (.inl g2))
      clear step fin
      (refine Ops.skip rfl rfl rfl ?_; refine Ops.skip rfl rfl rfl ?_; refine Ops.pickT rfl rfl rfl rfl ?_; refine Ops.nil (hK _ _ ?_); clear hK K; refine Fin.then ?_; refine St.condT rfl ?_; refine St.skip ?_; refine Fin.then ?_; refine St.seq ?_; refine St.block ?_; refine St.seq ?_; refine St.regionK (fun K hK => ?_); refine Ops.move rfl rfl rfl ?_; refine Ops.move rfl rfl rfl ?_)
      refine Ops.call gorlimb (rlimb_ok (limbs a) i) rfl rfl rfl rfl ?_
      (refine Ops.move rfl rfl rfl ?_; refine Ops.move rfl rfl rfl ?_)
      refine Ops.call gorlimb (rlimb_ok (limbs b) i) rfl rfl rfl rfl ?_
      (refine Ops.ibin (iadd (by omega) (by omega)) rfl rfl rfl rfl ?_; refine Ops.move rfl rfl rfl ?_; refine Ops.ibin (iadd (by omega) (by omega)) rfl rfl rfl rfl ?_; refine Ops.assign rfl rfl rfl ?_; refine Ops.nil (hK _ _ ?_); clear hK K; refine Fin.then ?_; refine St.seq ?_; refine St.regionK (fun K hK => ?_); refine Ops.move rfl rfl rfl ?_; refine Ops.move rfl rfl rfl ?_; refine Ops.ibin (irem (by omega) (by omega)) rfl rfl rfl rfl ?_)
      refine Ops.lit1 rfl rfl (by with_reducible exact sNat) rfl rfl rfl ?_
      refine Ops.append1 zs.length (ints (zs ++ [((limbs a).getD i 0 + (limbs b).getD i 0 + c) % 1073741824])) rfl rfl rfl rfl (by with_reducible exact sNat) (by simp [ints]) rfl (by omega) (by omega) (by simp [ints]) rfl ?_
      (refine Ops.assign rfl rfl rfl ?_; refine Ops.nil (hK _ _ ?_); clear hK K; refine Fin.then ?_; refine St.regionK (fun K hK => ?_); refine Ops.move rfl rfl rfl ?_; refine Ops.ibin (iquo (by omega) (by omega) (by omega)) rfl rfl rfl rfl ?_; refine Ops.assign rfl rfl rfl ?_; refine Ops.nil (hK _ _ ?_); clear hK K; refine Fin.then ?_; refine St.regionK (fun K hK => ?_); refine Ops.move rfl rfl rfl ?_; refine Ops.ibin (iadd (by omega) (by omega)) rfl rfl rfl rfl ?_; refine Ops.assign rfl rfl rfl ?_; refine Ops.nil (hK _ _ ?_); clear hK K; refine Fin.thenN ?_)
      refine Fin.next (i + 1, zs ++ [((limbs a).getD i 0 + (limbs b).getD i 0 + c) % 1073741824], ((limbs a).getD i 0 + (limbs b).getD i 0 + c) / 1073741824) st.1 st.2 (by exact Entails.of rfl ⟨rfl, rfl, rfl, rfl, by simp only [Int.natCast_add]; rfl, trivial⟩)
    · (refine Ops.move rfl rfl rfl ?_; refine Ops.ibin igtr rfl rfl rfl rfl ?_; refine Ops.pickF rfl rfl rfl rfl ?_; refine Ops.nil (hK _ _ ?_); clear hK K; refine Fin.then ?_)
      refine St.condP rfl (fun g3 => ?_) (fun g3 => ?_)
      · have st := step (.inr (.inr g3))
        clear step fin
        (refine St.skip ?_; refine Fin.then ?_; refine St.seq ?_; refine St.block ?_; refine St.seq ?_; refine St.regionK (fun K hK => ?_); refine Ops.move rfl rfl rfl ?_; refine Ops.move rfl rfl rfl ?_)
        refine Ops.call gorlimb (rlimb_ok (limbs a) i) rfl rfl rfl rfl ?_
        (refine Ops.move rfl rfl rfl ?_; refine Ops.move rfl rfl rfl ?_)
        refine Ops.call gorlimb (rlimb_ok (limbs b) i) rfl rfl rfl rfl ?_
        (refine Ops.ibin (iadd (by omega) (by omega)) rfl rfl rfl rfl ?_; refine Ops.move rfl rfl rfl ?_; refine Ops.ibin (iadd (by omega) (by omega)) rfl rfl rfl rfl ?_; refine Ops.assign rfl rfl rfl ?_; refine Ops.nil (hK _ _ ?_); clear hK K; refine Fin.then ?_; refine St.seq ?_; refine St.regionK (fun K hK => ?_); refine Ops.move rfl rfl rfl ?_; refine Ops.move rfl rfl rfl ?_; refine Ops.ibin (irem (by omega) (by omega)) rfl rfl rfl rfl ?_)
        refine Ops.lit1 rfl rfl (by with_reducible exact sNat) rfl rfl rfl ?_
        refine Ops.append1 zs.length (ints (zs ++ [((limbs a).getD i 0 + (limbs b).getD i 0 + c) % 1073741824])) rfl rfl rfl rfl (by with_reducible exact sNat) (by simp [ints]) rfl (by omega) (by omega) (by simp [ints]) rfl ?_
        (refine Ops.assign rfl rfl rfl ?_; refine Ops.nil (hK _ _ ?_); clear hK K; refine Fin.then ?_; refine St.regionK (fun K hK => ?_); refine Ops.move rfl rfl rfl ?_; refine Ops.ibin (iquo (by omega) (by omega) (by omega)) rfl rfl rfl rfl ?_; refine Ops.assign rfl rfl rfl ?_; refine Ops.nil (hK _ _ ?_); clear hK K; refine Fin.then ?_; refine St.regionK (fun K hK => ?_); refine Ops.move rfl rfl rfl ?_; refine Ops.ibin (iadd (by omega) (by omega)) rfl rfl rfl rfl ?_; refine Ops.assign rfl rfl rfl ?_; refine Ops.nil (hK _ _ ?_); clear hK K; refine Fin.thenN ?_)
        refine Fin.next (i + 1, zs ++ [((limbs a).getD i 0 + (limbs b).getD i 0 + c) % 1073741824], ((limbs a).getD i 0 + (limbs b).getD i 0 + c) / 1073741824) st.1 st.2 (by exact Entails.of rfl ⟨rfl, rfl, rfl, rfl, by simp only [Int.natCast_add]; rfl, trivial⟩)
      · have fe := fin (by omega)
        refine St.freeze 0 _ rfl (ints_frozen _ _) noBor_sub ?_
        (refine St.exit ?_; refine Fin.then ?_; refine St.seq ?_; refine St.regionK (fun K hK => ?_); refine Ops.move rfl rfl rfl ?_; refine Ops.assign rfl rfl rfl ?_; refine Ops.nil (hK _ _ ?_); clear hK K; refine Fin.then ?_; refine St.ret ?_)
        refine Fin.ret [_] rfl (AllRes.tmp rfl AllRes.nil) (by rw [fe]; rfl) rfl
theorem gorPlus : InGo Tryz.prog 104 := InGo.of Tryz.func104 (by kernel_rfl) (by kernel_rfl)
end Go.Proofs.YtdhmbgogmoaofaaGreat
namespace Go.Proofs.YtdhmbgogmoaofaaGreat
open Go.Own Go.Limbs
attribute [local irreducible] St Ops Go.Own.Fin Ok
theorem val_sub_done {a b : Nat} {zs : List Int} {c : Int} (hok : OKL zs) (hzl : zs.length = (limbs a).length) (hb : b ≤ a) (hc0 : 0 ≤ c) (hc1 : c ≤ 1)
    (hv : val zs - c * BB ^ (limbs a).length = pre (limbs a) (limbs a).length - pre (limbs b) (limbs a).length) : trimL zs = limbs (a - b) := by
  have hlb := limbs_len_mono hb
  rw [trim_limbs hok]
  rw [pre_all (Nat.le_refl _), pre_all hlb, val_limbs, val_limbs] at hv
  have hp : 0 < BB ^ (limbs a).length := Int.pow_pos (by decide)
  have h1 := pre_bd hok (limbs a).length
  rw [pre_all (by omega)] at h1
  have hc : c = 0 := by
    rcases Int.lt_or_le 0 c with hc | hc
    · have : c = 1 := by omega
      subst this; rw [Int.one_mul] at hv; omega
    · omega
  subst hc
  rw [Int.zero_mul] at hv
  congr 1; omega
theorem less_step {v c P A B x y d c' K : Int} (h : v - c * P = A - B) (e : x - y - c = d - c' * K) : v + P * d - c' * (P * K) = (A + x * P) - (B + y * P) := by
  have h2 : P * (x - y - c) = P * (d - c' * K) := by rw [e]
  grind
set_option maxHeartbeats 2000000 in
theorem rLess_ok (a b : Nat) (hb : b ≤ a) (hx : (limbs a).length ≤ 1000000) : Ok Tryz.prog 144 [natC a, natC b] (natC (a - b)) := by
  refine Ok.enter Tryz.func144 rfl _ Tryz.ntmps144 rfl ?_
  intro S w
  (refine St.seq ?_; refine St.regionK (fun K hK => ?_); refine Ops.assign rfl rfl rfl ?_; refine Ops.nil (hK _ _ ?_); clear hK K; refine Fin.then ?_; refine St.seq ?_; refine St.regionK (fun K hK => ?_); refine Ops.assign rfl rfl rfl ?_; refine Ops.nil (hK _ _ ?_); clear hK K; refine Fin.then ?_; refine St.seq ?_; refine St.regionK (fun K hK => ?_); refine Ops.assign rfl rfl rfl ?_; refine Ops.nil (hK _ _ ?_); clear hK K; refine Fin.then ?_; refine St.seq ?_; refine St.seq ?_; refine St.regionK (fun K hK => ?_); refine Ops.assign rfl rfl rfl ?_; refine Ops.nil (hK _ _ ?_); clear hK K; refine Fin.then ?_; refine St.block ?_)
  refine St.nilRow 5 0 3 1 rfl rfl rfl ?_
  skip
  refine St.loop (α := Nat × List Int × Int) (fun s => s.1 ≤ (limbs a).length ∧ s.2.1.length = s.1 ∧ OKL s.2.1 ∧ 0 ≤ s.2.2 ∧ s.2.2 ≤ 1 ∧ val s.2.1 - s.2.2 * BB ^ s.1 = pre (limbs a) s.1 - pre (limbs b) s.1)
    (fun s => [(0, .ct (natC a)), (1, .ct (natC b)), (5, .own 0), (6, .ct (intC s.2.2)), (7, .ct (intC s.1))])
    (fun s => [(0, .row 3 1 (ints s.2.1))])
    (fun s => (limbs a).length - s.1) (0, [], 0) ⟨Nat.zero_le _, rfl, OKL.nil, by decide, by decide, by simp [val, pre_zero]⟩ (by exact Entails.of rfl ⟨rfl, rfl, rfl, rfl, rfl, trivial⟩) ?_
  rintro ⟨i, zs, c⟩ ⟨hi, hz, hok, hc0, hc1, hv⟩
  dsimp only at hi hz hok hc0 hc1 hv ⊢
  (refine St.seq ?_; refine St.seq ?_; refine St.regionK (fun K hK => ?_); refine Ops.move rfl rfl rfl ?_; refine Ops.move rfl rfl rfl ?_; refine Ops.lenF rfl rfl (by with_reducible first | exact sNat.und | exact sInts.und) (List.length_map ..) rfl ?_; refine Ops.ibin ilss rfl rfl rfl rfl ?_; refine Ops.nil (hK _ _ ?_); clear hK K; refine Fin.then ?_)
  refine St.condP rfl (fun h => ?_) (fun h => ?_)
  · have b1 := (limbs_ok a).get i
    have b2 := (limbs_ok b).get i
    simp only [BB] at b1 b2
    have e2 : (i : Int).toNat = i := Int.toNat_natCast i
    (refine St.skip ?_; refine Fin.then ?_; refine St.seq ?_; refine St.block ?_; refine St.seq ?_)
    refine St.drawK (by with_reducible exact mixed) 11 (.p 0 (.p 1 (.p 2 (.p 4 (.p 5 (.p 8 (.f 3 (.m 6 (.p 7 (.p 9 (.p 10 .done))))))))))) (by kernel_rfl) (fun K hK => ?_)
    (refine Ops.move rfl rfl rfl ?_; refine Ops.move rfl rfl rfl ?_; refine Ops.idxF rfl rfl rfl (by with_reducible first | exact sNat | exact sInts) (by omega) (ints_at (by omega) (by omega)) rfl ?_; refine Ops.move rfl rfl rfl ?_; refine Ops.move rfl rfl rfl ?_; refine Ops.move rfl rfl rfl ?_; refine Ops.ld1F rfl rfl rfl (by with_reducible first | exact lInt | exact lNat | exact lBool | exact lInts) rfl ?_)
    rw [e2]
    skip
    refine Ops.call gorlimb (rlimb_ok (limbs b) i) rfl rfl rfl rfl ?_
    (refine Ops.ibin (isub (by omega) (by omega)) rfl rfl rfl rfl ?_; refine Ops.ibin (isub (by omega) (by omega)) rfl rfl rfl rfl ?_; refine Ops.assign rfl rfl rfl ?_; refine Ops.nil (hK _ _ ?_); clear hK K; refine Fin.then ?_; refine St.seq ?_; refine St.regionK (fun K hK => ?_); refine Ops.assign rfl rfl rfl ?_; refine Ops.nil (hK _ _ ?_); clear hK K; refine Fin.then ?_; refine St.seq ?_; refine St.seq ?_; refine St.regionK (fun K hK => ?_); refine Ops.move rfl rfl rfl ?_; refine Ops.ibin ilss rfl rfl rfl rfl ?_; refine Ops.nil (hK _ _ ?_); clear hK K; refine Fin.then ?_)
    refine St.condP rfl (fun h2 => ?_) (fun h2 => ?_)
    · (refine St.seq ?_; refine St.regionK (fun K hK => ?_); refine Ops.move rfl rfl rfl ?_; refine Ops.ibin (iadd (by omega) (by omega)) rfl rfl rfl rfl ?_; refine Ops.assign rfl rfl rfl ?_; refine Ops.nil (hK _ _ ?_); clear hK K; refine Fin.then ?_; refine St.regionK (fun K hK => ?_); refine Ops.assign rfl rfl rfl ?_; refine Ops.nil (hK _ _ ?_); clear hK K; refine Fin.then ?_; refine St.regionK (fun K hK => ?_); refine Ops.move rfl rfl rfl ?_; refine Ops.move rfl rfl rfl ?_)
      refine Ops.lit1 rfl rfl (by with_reducible exact sNat) rfl rfl rfl ?_
      refine Ops.append1 zs.length (ints (zs ++ [(limbs a).getD i 0 - (limbs b).getD i 0 - c + 1073741824])) rfl rfl rfl rfl (by with_reducible exact sNat) (by simp [ints]) rfl (by omega) (by omega) (by simp [ints]) rfl ?_
      (refine Ops.assign rfl rfl rfl ?_; refine Ops.nil (hK _ _ ?_); clear hK K; refine Fin.then ?_; refine St.regionK (fun K hK => ?_); refine Ops.move rfl rfl rfl ?_; refine Ops.ibin (iadd (by omega) (by omega)) rfl rfl rfl rfl ?_; refine Ops.assign rfl rfl rfl ?_; refine Ops.nil (hK _ _ ?_); clear hK K; refine Fin.thenN ?_)
      refine Fin.next (i + 1, zs ++ [(limbs a).getD i 0 - (limbs b).getD i 0 - c + 1073741824], 1) (by dsimp only; omega) ⟨by dsimp only; omega, by simp [hz], ?_, by show (0 : Int) ≤ 1; decide, by show (1 : Int) ≤ 1; decide, ?_⟩ (by exact Entails.of rfl ⟨rfl, rfl, rfl, rfl, by simp only [Int.natCast_add]; rfl, trivial⟩)
      all_goals dsimp only
      · exact hok.append (OKL.cons (by simp only [BB]; omega) OKL.nil)
      · rw [val_append, hz, pre_succ, pre_succ, Int.pow_succ]
        simp only [val, Int.mul_zero, Int.add_zero]
        exact less_step hv (by simp only [BB]; omega)
    · (refine St.skip ?_; refine Fin.then ?_; refine St.regionK (fun K hK => ?_); refine Ops.move rfl rfl rfl ?_; refine Ops.move rfl rfl rfl ?_)
      refine Ops.lit1 rfl rfl (by with_reducible exact sNat) rfl rfl rfl ?_
      refine Ops.append1 zs.length (ints (zs ++ [(limbs a).getD i 0 - (limbs b).getD i 0 - c])) rfl rfl rfl rfl (by with_reducible exact sNat) (by simp [ints]) rfl (by omega) (by omega) (by simp [ints]) rfl ?_
      (refine Ops.assign rfl rfl rfl ?_; refine Ops.nil (hK _ _ ?_); clear hK K; refine Fin.then ?_; refine St.regionK (fun K hK => ?_); refine Ops.move rfl rfl rfl ?_; refine Ops.ibin (iadd (by omega) (by omega)) rfl rfl rfl rfl ?_; refine Ops.assign rfl rfl rfl ?_; refine Ops.nil (hK _ _ ?_); clear hK K; refine Fin.thenN ?_)
      refine Fin.next (i + 1, zs ++ [(limbs a).getD i 0 - (limbs b).getD i 0 - c], 0) (by dsimp only; omega) ⟨by dsimp only; omega, by simp [hz], ?_, by show (0 : Int) ≤ 0; decide, by show (0 : Int) ≤ 1; decide, ?_⟩ (by exact Entails.of rfl ⟨rfl, rfl, rfl, rfl, by simp only [Int.natCast_add]; rfl, trivial⟩)
      all_goals dsimp only
      · exact hok.append (OKL.cons (by simp only [BB]; omega) OKL.nil)
      · rw [val_append, hz, pre_succ, pre_succ, Int.pow_succ]
        simp only [val, Int.mul_zero, Int.add_zero]
        exact less_step hv (by simp only [BB]; omega)
  · have hi' : i = (limbs a).length := by omega
    subst hi'
    have e4 := val_sub_done hok hz hb hc0 hc1 hv
    refine St.freeze 0 _ rfl (ints_frozen _ _) noBor_sub ?_
    (refine St.exit ?_; refine Fin.then ?_; refine St.seq ?_; refine St.regionK (fun K hK => ?_); refine Ops.move rfl rfl rfl ?_)
    refine Ops.call gorTrim (rTrim_ok zs (by omega)) rfl rfl rfl rfl ?_
    rw [e4]
    (refine Ops.assign rfl rfl rfl ?_; refine Ops.nil (hK _ _ ?_); clear hK K; refine Fin.then ?_; refine St.ret ?_)
    refine Fin.ret [_] rfl (AllRes.tmp rfl AllRes.nil) rfl rfl
theorem gorLess : InGo Tryz.prog 144 := InGo.of Tryz.func144 (by kernel_rfl) (by kernel_rfl)
set_option maxHeartbeats 2000000 in
theorem rhalf_ok (a : Nat) (hl : (limbs a).length ≤ 1000000) : Ok Tryz.prog 161 [natC a] (natC (a / 2)) := by
  refine Ok.enter Tryz.func161 rfl _ Tryz.ntmps161 rfl ?_
  intro S w
  (refine St.seq ?_; refine St.regionK (fun K hK => ?_); refine Ops.assign rfl rfl rfl ?_; refine Ops.nil (hK _ _ ?_); clear hK K; refine Fin.then ?_; refine St.seq ?_; refine St.regionK (fun K hK => ?_); refine Ops.move rfl rfl rfl ?_; refine Ops.lenF rfl rfl (by with_reducible first | exact sNat.und | exact sInts.und) (List.length_map ..) rfl ?_)
  refine Ops.make 0 (limbs a).length rfl rfl rfl rfl (by with_reducible exact sNat) (by omega) (by omega) rfl rfl rfl ?_
  rw [ints_made]
  (refine Ops.assign rfl rfl rfl ?_; refine Ops.nil (hK _ _ ?_); clear hK K; refine Fin.then ?_; refine St.seq ?_; refine St.regionK (fun K hK => ?_); refine Ops.assign rfl rfl rfl ?_; refine Ops.nil (hK _ _ ?_); clear hK K; refine Fin.then ?_; refine St.seq ?_; refine St.seq ?_; refine St.regionK (fun K hK => ?_); refine Ops.move rfl rfl rfl ?_; refine Ops.lenF rfl rfl (by with_reducible first | exact sNat.und | exact sInts.und) (List.length_map ..) rfl ?_; refine Ops.ibin (isub (by omega) (by omega)) rfl rfl rfl rfl ?_; refine Ops.assign rfl rfl rfl ?_; refine Ops.nil (hK _ _ ?_); clear hK K; refine Fin.then ?_; refine St.block ?_)
  refine St.loop (α := Nat × List Int × Int) (fun s => s.1 ≤ (limbs a).length ∧ s.2.1.length = (limbs a).length ∧ OKL s.2.1 ∧ (∀ j, j < s.1 → s.2.1.getD j 0 = 0) ∧ 0 ≤ s.2.2 ∧ s.2.2 < 2 ∧ val s.2.1 * 2 + s.2.2 * BB ^ s.1 = val (limbs a) - pre (limbs a) s.1)
    (fun s => [(0, .ct (natC a)), (3, .own 0), (4, .ct (intC s.2.2)), (5, .ct (intC ((s.1 : Int) - 1)))])
    (fun s => [(0, .row 3 1 (ints s.2.1))]) (fun s => s.1) ((limbs a).length, List.replicate (limbs a).length 0, 0) ⟨Nat.le_refl _, by simp, OKL.zeros _, ?_, Int.le_refl _, by show (0 : Int) < 2; decide, ?_⟩ (by exact Entails.of rfl ⟨rfl, rfl, rfl, rfl, trivial⟩) ?_
  · intro j _; simp [List.getD_eq_getElem?_getD, List.getElem?_replicate]; split <;> rfl
  · dsimp only; rw [val_zeros, pre_all (Nat.le_refl _)]; simp
  rintro ⟨q, zs, rest⟩ ⟨hq, hzl, hok, hz, hr0, hr1, hv⟩
  dsimp only at hq hzl hok hz hr0 hr1 hv ⊢
  (refine St.seq ?_; refine St.seq ?_; refine St.regionK (fun K hK => ?_); refine Ops.move rfl rfl rfl ?_; refine Ops.ibin igeq rfl rfl rfl rfl ?_; refine Ops.nil (hK _ _ ?_); clear hK K; refine Fin.then ?_)
  refine St.condP rfl (fun h => ?_) (fun h => ?_)
  · obtain ⟨i, rfl⟩ : ∃ i, q = i + 1 := ⟨q - 1, by omega⟩
    have e1 : (((i + 1 : Nat) : Int) - 1) = (i : Int) := by omega
    have e2 : (i : Int).toNat = i := Int.toNat_natCast i
    have e3 : (i : Int).toNat * 1 = i := by omega
    have bx := (limbs_ok a).get i
    simp only [BB] at bx
    rw [e1]
    (refine St.skip ?_; refine Fin.then ?_; refine St.seq ?_; refine St.block ?_; refine St.seq ?_; refine St.regionK (fun K hK => ?_); refine Ops.move rfl rfl rfl ?_; refine Ops.move rfl rfl rfl ?_; refine Ops.idxF rfl rfl rfl (by with_reducible first | exact sNat | exact sInts) (by omega) (ints_at (by omega) (by omega)) rfl ?_; refine Ops.ld1F rfl rfl rfl (by with_reducible first | exact lInt | exact lNat | exact lBool | exact lInts) rfl ?_; refine Ops.move rfl rfl rfl ?_; refine Ops.ibin (imul (by omega) (by omega)) rfl rfl rfl rfl ?_)
    rw [e2]
    (refine Ops.ibin (iadd (by omega) (by omega)) rfl rfl rfl rfl ?_; refine Ops.assign rfl rfl rfl ?_; refine Ops.nil (hK _ _ ?_); clear hK K; refine Fin.then ?_; refine St.seq ?_; refine St.regionK (fun K hK => ?_); refine Ops.move rfl rfl rfl ?_; refine Ops.move rfl rfl rfl ?_; refine Ops.move rfl rfl rfl ?_; refine Ops.ibin (iquo (by omega) (by omega) (by omega)) rfl rfl rfl rfl ?_)
    rw [show (limbs a).getD i 0 + rest * 1073741824 = rest * 1073741824 + (limbs a).getD i 0 from Int.add_comm _ _]
    skip
    refine Ops.idxR (limbs a).length rfl rfl rfl (by simp [ints]; omega) rfl (by with_reducible exact sNat) (by omega) (by omega) rfl ?_
    rw [e3]
    refine Ops.st1A rfl rfl rfl rfl rfl (by with_reducible exact zInt) (by simp [Ent.cs, ints]; omega) ?_
    simp only [Ent.setc, ints_set]
    (refine Ops.nil (hK _ _ ?_); clear hK K; refine Fin.then ?_; refine St.regionK (fun K hK => ?_); refine Ops.move rfl rfl rfl ?_; refine Ops.ibin (irem (by omega) (by omega)) rfl rfl rfl rfl ?_; refine Ops.assign rfl rfl rfl ?_; refine Ops.nil (hK _ _ ?_); clear hK K; refine Fin.then ?_; refine St.regionK (fun K hK => ?_); refine Ops.move rfl rfl rfl ?_; refine Ops.ibin (isub (by omega) (by omega)) rfl rfl rfl rfl ?_; refine Ops.assign rfl rfl rfl ?_; refine Ops.nil (hK _ _ ?_); clear hK K; refine Fin.thenN ?_)
    refine Fin.next (i, zs.set i ((rest * 1073741824 + (limbs a).getD i 0) / 2), (rest * 1073741824 + (limbs a).getD i 0) % 2) (by dsimp only; omega) ⟨by dsimp only; omega, by simp [hzl], ?_, ?_, by dsimp only; omega, by dsimp only; omega, ?_⟩ (by exact Entails.of rfl ⟨rfl, rfl, rfl, rfl, trivial⟩)
    all_goals dsimp only
    · exact hok.set _ (by simp only [BB]; omega)
    · intro j hj; rw [getD_set (by omega), if_neg (by omega)]; exact hz j (by omega)
    · rw [val_set (by omega), hz i (by omega), Int.sub_zero]
      exact top_step hv
  · have hq0 : q = 0 := by omega
    subst hq0
    have e4 : val zs * 2 + rest = a := by rw [pre_zero, val_limbs] at hv; simpa using hv
    have e5 : (val zs).toNat = a / 2 := by omega
    refine St.freeze 0 _ rfl (ints_frozen _ _) noBor_sub ?_
    (refine St.exit ?_; refine Fin.then ?_; refine St.seq ?_; refine St.regionK (fun K hK => ?_); refine Ops.move rfl rfl rfl ?_)
    refine Ops.call gorTrim (rTrim_ok zs (by omega)) rfl rfl rfl rfl ?_
    rw [trim_limbs hok, e5]
    (refine Ops.assign rfl rfl rfl ?_; refine Ops.nil (hK _ _ ?_); clear hK K; refine Fin.then ?_; refine St.ret ?_)
    refine Fin.ret [_] rfl (AllRes.tmp rfl AllRes.nil) rfl rfl
theorem gorhalf : InGo Tryz.prog 161 := InGo.of Tryz.func161 (by kernel_rfl) (by kernel_rfl)
set_option maxHeartbeats 4000000 in
theorem rTimes_ok (a b : Nat) (hx : (limbs a).length + (limbs b).length ≤ 1000000) : Ok Tryz.prog 94 [natC a, natC b] (natC (a * b)) := by
  refine Ok.enter Tryz.func94 rfl _ Tryz.ntmps94 rfl ?_
  intro S w
  (refine St.seq ?_; refine St.regionK (fun K hK => ?_); refine Ops.assign rfl rfl rfl ?_; refine Ops.nil (hK _ _ ?_); clear hK K; refine Fin.then ?_; refine St.seq ?_; refine St.regionK (fun K hK => ?_); refine Ops.move rfl rfl rfl ?_; refine Ops.lenF rfl rfl (by with_reducible first | exact sNat.und | exact sInts.und) (List.length_map ..) rfl ?_; refine Ops.move rfl rfl rfl ?_; refine Ops.lenF rfl rfl (by with_reducible first | exact sNat.und | exact sInts.und) (List.length_map ..) rfl ?_; refine Ops.ibin (iadd (by omega) (by omega)) rfl rfl rfl rfl ?_)
  refine Ops.make 0 ((limbs a).length + (limbs b).length) rfl rfl rfl (by omega) (by with_reducible exact sNat) (by omega) (by omega) rfl rfl rfl ?_
  rw [ints_made]
  (refine Ops.assign rfl rfl rfl ?_; refine Ops.nil (hK _ _ ?_); clear hK K; refine Fin.then ?_; refine St.seq ?_; refine St.seq ?_; refine St.regionK (fun K hK => ?_); refine Ops.assign rfl rfl rfl ?_; refine Ops.nil (hK _ _ ?_); clear hK K; refine Fin.then ?_; refine St.block ?_)
  refine St.loop (α := Nat × List Int) (fun s => s.1 ≤ (limbs a).length ∧ s.2.length = (limbs a).length + (limbs b).length ∧ OKL s.2 ∧ (∀ j, s.1 + (limbs b).length ≤ j → s.2.getD j 0 = 0) ∧ val s.2 = pre (limbs a) s.1 * b)
    (fun s => [(0, .ct (natC a)), (1, .ct (natC b)), (5, .own 0), (6, .ct (intC s.1))])
    (fun s => [(0, .row 3 1 (ints s.2))])
    (fun s => (limbs a).length - s.1) (0, List.replicate ((limbs a).length + (limbs b).length) 0) ⟨Nat.zero_le _, by simp, OKL.zeros _, ?_, ?_⟩ (by exact Entails.of rfl ⟨rfl, rfl, rfl, rfl, trivial⟩) ?_
  · intro j _; simp [List.getD_eq_getElem?_getD, List.getElem?_replicate]; split <;> rfl
  · rw [pre_zero, val_zeros]; simp
  rintro ⟨i, out⟩ ⟨hi, hlen, hok, hz, hv⟩
  dsimp only at hi hlen hok hz hv ⊢
  (refine St.seq ?_; refine St.seq ?_; refine St.regionK (fun K hK => ?_); refine Ops.move rfl rfl rfl ?_; refine Ops.move rfl rfl rfl ?_; refine Ops.lenF rfl rfl (by with_reducible first | exact sNat.und | exact sInts.und) (List.length_map ..) rfl ?_; refine Ops.ibin ilss rfl rfl rfl rfl ?_; refine Ops.nil (hK _ _ ?_); clear hK K; refine Fin.then ?_)
  refine St.condP rfl (fun h => ?_) (fun h => ?_)
  · have bx := (limbs_ok a).get i
    have eix : (i : Int).toNat = i := Int.toNat_natCast i
    (refine St.skip ?_; refine Fin.then ?_; refine St.seq ?_; refine St.block ?_; refine St.seq ?_; refine St.regionK (fun K hK => ?_); refine Ops.assign rfl rfl rfl ?_; refine Ops.nil (hK _ _ ?_); clear hK K; refine Fin.then ?_; refine St.seq ?_; refine St.regionK (fun K hK => ?_); refine Ops.assign rfl rfl rfl ?_; refine Ops.nil (hK _ _ ?_); clear hK K; refine Fin.then ?_; refine St.block ?_)
    refine St.loop (α := Nat × List Int × Int) (fun s => (s.1 ≤ (limbs b).length ∨ s.2.2 = 0) ∧ s.1 ≤ (limbs b).length + 1 ∧ s.2.1.length = (limbs a).length + (limbs b).length ∧ OKL s.2.1 ∧ (∀ j, i + (limbs b).length + 1 ≤ j → s.2.1.getD j 0 = 0) ∧ (s.1 ≤ (limbs b).length → s.2.1.getD (i + (limbs b).length) 0 = 0) ∧ 0 ≤ s.2.2 ∧ s.2.2 < BB ∧
        val s.2.1 + s.2.2 * BB ^ (i + s.1) = val out + (limbs a).getD i 0 * pre (limbs b) s.1 * BB ^ i)
      (fun s => [(0, .ct (natC a)), (1, .ct (natC b)), (5, .own 0), (6, .ct (intC i)), (7, .ct (intC s.2.2)), (8, .ct (intC s.1))])
      (fun s => [(0, .row 3 1 (ints s.2.1))])
      (fun s => (limbs b).length + 2 - s.1) (0, out, 0) ⟨.inr rfl, Nat.zero_le _, hlen, hok, fun j hj => hz j (by omega), fun _ => hz _ (Nat.le_refl _), Int.le_refl _, by show (0 : Int) < BB; decide, by rw [pre_zero]; simp⟩ (by exact Entails.of rfl ⟨rfl, rfl, rfl, rfl, rfl, rfl, trivial⟩) ?_
    rintro ⟨q, zs, c⟩ ⟨hqc, hq, hzl, hzok, hzz, hzt, hc0, hc1, hzv⟩
    dsimp only at hqc hq hzl hzok hzz hzt hc0 hc1 hzv ⊢
    have by' := (limbs_ok b).get q
    have bz := hzok.get (i + q)
    have bm := mul_bd bx by'
    have hpast := getD_past (xs := limbs b) (i := q)
    simp only [BB] at bz hc1 bx
    have eq1 : (q : Int).toNat = q := Int.toNat_natCast q
    have eiq : ((i : Int) + q).toNat * 1 = i + q := by omega
    have step : q ≤ (limbs b).length →
        ((limbs b).length + 2 - (q + 1) < (limbs b).length + 2 - q) ∧ ((q + 1 ≤ (limbs b).length ∨ (zs.getD (i + q) 0 + (limbs a).getD i 0 * (limbs b).getD q 0 + c) / 1073741824 = 0) ∧ q + 1 ≤ (limbs b).length + 1 ∧ (zs.set (i + q) ((zs.getD (i + q) 0 + (limbs a).getD i 0 * (limbs b).getD q 0 + c) % 1073741824)).length = (limbs a).length + (limbs b).length ∧ OKL (zs.set (i + q) ((zs.getD (i + q) 0 + (limbs a).getD i 0 * (limbs b).getD q 0 + c) % 1073741824)) ∧ (∀ j, i + (limbs b).length + 1 ≤ j → (zs.set (i + q) ((zs.getD (i + q) 0 + (limbs a).getD i 0 * (limbs b).getD q 0 + c) % 1073741824)).getD j 0 = 0) ∧ (q + 1 ≤ (limbs b).length → (zs.set (i + q) ((zs.getD (i + q) 0 + (limbs a).getD i 0 * (limbs b).getD q 0 + c) % 1073741824)).getD (i + (limbs b).length) 0 = 0) ∧ 0 ≤ (zs.getD (i + q) 0 + (limbs a).getD i 0 * (limbs b).getD q 0 + c) / 1073741824 ∧ (zs.getD (i + q) 0 + (limbs a).getD i 0 * (limbs b).getD q 0 + c) / 1073741824 < BB ∧
        val (zs.set (i + q) ((zs.getD (i + q) 0 + (limbs a).getD i 0 * (limbs b).getD q 0 + c) % 1073741824)) + (zs.getD (i + q) 0 + (limbs a).getD i 0 * (limbs b).getD q 0 + c) / 1073741824 * BB ^ (i + (q + 1)) = val out + (limbs a).getD i 0 * pre (limbs b) (q + 1) * BB ^ i) := by
      intro hqb
      refine ⟨by omega, ?_, by omega, by simp [hzl], hzok.set _ (by simp only [BB]; omega), ?_, ?_, by omega, by simp only [BB]; omega, ?_⟩
      · rcases Nat.lt_or_ge q (limbs b).length with h5 | h5
        · exact .inl h5
        · have h6 : q = (limbs b).length := by omega
          right
          have := hzt hqb
          rw [← h6] at this
          rw [this, hpast h5, Int.mul_zero]; omega
      · intro j hj
        rw [getD_set (by omega), if_neg (by omega)]; exact hzz j hj
      · intro h5
        rw [getD_set (by omega), if_neg (by omega)]; exact hzt hqb
      · rw [val_set (by omega), pre_succ, show i + (q + 1) = (i + q) + 1 by omega, Int.pow_succ, Int.pow_add]
        rw [Int.pow_add] at hzv
        have e := Int.mul_ediv_add_emod (zs.getD (i + q) 0 + (limbs a).getD i 0 * (limbs b).getD q 0 + c) 1073741824
        clear hpast hzt hzz hqc bm by' bz hz
        simp only [BB] at *
        generalize (zs.getD (i + q) 0 + (limbs a).getD i 0 * (limbs b).getD q 0 + c) / 1073741824 = Q at *
        generalize (zs.getD (i + q) 0 + (limbs a).getD i 0 * (limbs b).getD q 0 + c) % 1073741824 = M at *
        generalize (1073741824 : Int) ^ i = I at *
        generalize (1073741824 : Int) ^ q = J at *
        generalize zs.getD (i + q) 0 = z at *
        generalize (limbs a).getD i 0 = x at *
        generalize (limbs b).getD q 0 = y at *
        generalize pre (limbs b) q = pb at *
        generalize val zs = vz at *
        generalize val out = vo at *
        grind
    have fin : ¬ ((q : Int) < (limbs b).length) → ¬ (0 < c) → (i + 1 ≤ (limbs a).length ∧ zs.length = (limbs a).length + (limbs b).length ∧ OKL zs ∧ (∀ j, i + 1 + (limbs b).length ≤ j → zs.getD j 0 = 0) ∧ val zs = pre (limbs a) (i + 1) * b) := by
      intro g1 g2
      refine ⟨by omega, hzl, hzok, fun j hj => hzz j (by omega), ?_⟩
      have hc : c = 0 := by omega
      rw [hc, Int.zero_mul, Int.add_zero, pre_all (xs := limbs b) (by omega), val_limbs, hv] at hzv
      rw [hzv, pre_succ]; grind
    (refine St.seq ?_; refine St.seq ?_; refine St.regionK (fun K hK => ?_); refine Ops.move rfl rfl rfl ?_; refine Ops.move rfl rfl rfl ?_; refine Ops.lenF rfl rfl (by with_reducible first | exact sNat.und | exact sInts.und) (List.length_map ..) rfl ?_; refine Ops.ibin ilss rfl rfl rfl rfl ?_; refine Ops.move rfl rfl rfl ?_)
    refine Ops.splitP 26 rfl (fun g1 => ?_) (fun g1 => ?_)
    · have st := step (by omega)
      clear step fin
      (refine Ops.skip rfl rfl rfl ?_; refine Ops.skip rfl rfl rfl ?_; refine Ops.pickT rfl rfl rfl rfl ?_; refine Ops.nil (hK _ _ ?_); clear hK K; refine Fin.then ?_; refine St.condT rfl ?_; refine St.skip ?_; refine Fin.then ?_; refine St.seq ?_; refine St.block ?_; refine St.seq ?_)
      refine St.drawK (by with_reducible exact mixed) 18 (.p 0 (.p 1 (.p 2 (.p 3 (.p 4 (.p 6 (.p 7 (.p 8 (.p 10 (.p 11 (.p 15 (.f 5 (.f 9 (.m 12 (.p 13 (.p 14 (.p 16 (.p 17 .done)))))))))))))))))) (by kernel_rfl) (fun K hK => ?_)
      (refine Ops.move rfl rfl rfl ?_; refine Ops.move rfl rfl rfl ?_; refine Ops.move rfl rfl rfl ?_; refine Ops.ibin (iadd (by omega) (by omega)) rfl rfl rfl rfl ?_)
      refine Ops.idxR ((limbs a).length + (limbs b).length) rfl rfl rfl (by simp [ints]; omega) rfl (by with_reducible exact sNat) (by omega) (by omega) rfl ?_
      rw [eiq]
      (refine Ops.move rfl rfl rfl ?_; refine Ops.move rfl rfl rfl ?_; refine Ops.idxF rfl rfl rfl (by with_reducible first | exact sNat | exact sInts) (by omega) (ints_at (by omega) (by omega)) rfl ?_; refine Ops.move rfl rfl rfl ?_; refine Ops.move rfl rfl rfl ?_; refine Ops.move rfl rfl rfl ?_)
      rw [eix]
      refine Ops.ld1A rfl rfl rfl rfl (ints_get (by omega)) (by with_reducible exact lInt) rfl ?_
      (refine Ops.ld1F rfl rfl rfl (by with_reducible first | exact lInt | exact lNat | exact lBool | exact lInts) rfl ?_)
      refine Ops.call gorlimb (rlimb_ok (limbs b) q) rfl rfl rfl rfl ?_
      (refine Ops.ibin (imul (by omega) (by omega)) rfl rfl rfl rfl ?_; refine Ops.ibin (iadd (by omega) (by omega)) rfl rfl rfl rfl ?_; refine Ops.ibin (iadd (by omega) (by omega)) rfl rfl rfl rfl ?_; refine Ops.assign rfl rfl rfl ?_; refine Ops.nil (hK _ _ ?_); clear hK K; refine Fin.then ?_; refine St.seq ?_; refine St.regionK (fun K hK => ?_); refine Ops.move rfl rfl rfl ?_; refine Ops.move rfl rfl rfl ?_; refine Ops.move rfl rfl rfl ?_; refine Ops.ibin (iadd (by omega) (by omega)) rfl rfl rfl rfl ?_; refine Ops.move rfl rfl rfl ?_; refine Ops.ibin (irem (by omega) (by omega)) rfl rfl rfl rfl ?_)
      refine Ops.idxR ((limbs a).length + (limbs b).length) rfl rfl rfl (by simp [ints]; omega) rfl (by with_reducible exact sNat) (by omega) (by omega) rfl ?_
      rw [eiq]
      refine Ops.st1A rfl rfl rfl rfl rfl (by with_reducible exact zInt) (by simp [Ent.cs, ints]; omega) ?_
      simp only [Ent.setc, ints_set]
      (refine Ops.nil (hK _ _ ?_); clear hK K; refine Fin.then ?_; refine St.regionK (fun K hK => ?_); refine Ops.move rfl rfl rfl ?_; refine Ops.ibin (iquo (by omega) (by omega) (by omega)) rfl rfl rfl rfl ?_; refine Ops.assign rfl rfl rfl ?_; refine Ops.nil (hK _ _ ?_); clear hK K; refine Fin.then ?_; refine St.regionK (fun K hK => ?_); refine Ops.move rfl rfl rfl ?_; refine Ops.ibin (iadd (by omega) (by omega)) rfl rfl rfl rfl ?_; refine Ops.assign rfl rfl rfl ?_; refine Ops.nil (hK _ _ ?_); clear hK K; refine Fin.thenN ?_)
      refine Fin.next (q + 1, zs.set (i + q) ((zs.getD (i + q) 0 + (limbs a).getD i 0 * (limbs b).getD q 0 + c) % 1073741824), (zs.getD (i + q) 0 + (limbs a).getD i 0 * (limbs b).getD q 0 + c) / 1073741824) st.1 st.2 (by exact Entails.of rfl ⟨rfl, rfl, rfl, rfl, rfl, by simp only [Int.natCast_add]; rfl, trivial⟩)
    · (refine Ops.move rfl rfl rfl ?_; refine Ops.ibin igtr rfl rfl rfl rfl ?_; refine Ops.pickF rfl rfl rfl rfl ?_; refine Ops.nil (hK _ _ ?_); clear hK K; refine Fin.then ?_)
      refine St.condP rfl (fun g2 => ?_) (fun g2 => ?_)
      · have st := step (by omega)
        clear step fin
        (refine St.skip ?_; refine Fin.then ?_; refine St.seq ?_; refine St.block ?_; refine St.seq ?_)
        refine St.drawK (by with_reducible exact mixed) 18 (.p 0 (.p 1 (.p 2 (.p 3 (.p 4 (.p 6 (.p 7 (.p 8 (.p 10 (.p 11 (.p 15 (.f 5 (.f 9 (.m 12 (.p 13 (.p 14 (.p 16 (.p 17 .done)))))))))))))))))) (by kernel_rfl) (fun K hK => ?_)
        (refine Ops.move rfl rfl rfl ?_; refine Ops.move rfl rfl rfl ?_; refine Ops.move rfl rfl rfl ?_; refine Ops.ibin (iadd (by omega) (by omega)) rfl rfl rfl rfl ?_)
        refine Ops.idxR ((limbs a).length + (limbs b).length) rfl rfl rfl (by simp [ints]; omega) rfl (by with_reducible exact sNat) (by omega) (by omega) rfl ?_
        rw [eiq]
        (refine Ops.move rfl rfl rfl ?_; refine Ops.move rfl rfl rfl ?_; refine Ops.idxF rfl rfl rfl (by with_reducible first | exact sNat | exact sInts) (by omega) (ints_at (by omega) (by omega)) rfl ?_; refine Ops.move rfl rfl rfl ?_; refine Ops.move rfl rfl rfl ?_; refine Ops.move rfl rfl rfl ?_)
        rw [eix]
        refine Ops.ld1A rfl rfl rfl rfl (ints_get (by omega)) (by with_reducible exact lInt) rfl ?_
        (refine Ops.ld1F rfl rfl rfl (by with_reducible first | exact lInt | exact lNat | exact lBool | exact lInts) rfl ?_)
        refine Ops.call gorlimb (rlimb_ok (limbs b) q) rfl rfl rfl rfl ?_
        (refine Ops.ibin (imul (by omega) (by omega)) rfl rfl rfl rfl ?_; refine Ops.ibin (iadd (by omega) (by omega)) rfl rfl rfl rfl ?_; refine Ops.ibin (iadd (by omega) (by omega)) rfl rfl rfl rfl ?_; refine Ops.assign rfl rfl rfl ?_; refine Ops.nil (hK _ _ ?_); clear hK K; refine Fin.then ?_; refine St.seq ?_; refine St.regionK (fun K hK => ?_); refine Ops.move rfl rfl rfl ?_; refine Ops.move rfl rfl rfl ?_; refine Ops.move rfl rfl rfl ?_; refine Ops.ibin (iadd (by omega) (by omega)) rfl rfl rfl rfl ?_; refine Ops.move rfl rfl rfl ?_; refine Ops.ibin (irem (by omega) (by omega)) rfl rfl rfl rfl ?_)
        refine Ops.idxR ((limbs a).length + (limbs b).length) rfl rfl rfl (by simp [ints]; omega) rfl (by with_reducible exact sNat) (by omega) (by omega) rfl ?_
        rw [eiq]
        refine Ops.st1A rfl rfl rfl rfl rfl (by with_reducible exact zInt) (by simp [Ent.cs, ints]; omega) ?_
        simp only [Ent.setc, ints_set]
        (refine Ops.nil (hK _ _ ?_); clear hK K; refine Fin.then ?_; refine St.regionK (fun K hK => ?_); refine Ops.move rfl rfl rfl ?_; refine Ops.ibin (iquo (by omega) (by omega) (by omega)) rfl rfl rfl rfl ?_; refine Ops.assign rfl rfl rfl ?_; refine Ops.nil (hK _ _ ?_); clear hK K; refine Fin.then ?_; refine St.regionK (fun K hK => ?_); refine Ops.move rfl rfl rfl ?_; refine Ops.ibin (iadd (by omega) (by omega)) rfl rfl rfl rfl ?_; refine Ops.assign rfl rfl rfl ?_; refine Ops.nil (hK _ _ ?_); clear hK K; refine Fin.thenN ?_)
        refine Fin.next (q + 1, zs.set (i + q) ((zs.getD (i + q) 0 + (limbs a).getD i 0 * (limbs b).getD q 0 + c) % 1073741824), (zs.getD (i + q) 0 + (limbs a).getD i 0 * (limbs b).getD q 0 + c) / 1073741824) st.1 st.2 (by exact Entails.of rfl ⟨rfl, rfl, rfl, rfl, rfl, by simp only [Int.natCast_add]; rfl, trivial⟩)
      · have fe := fin g1 g2
        clear step fin
        (refine St.exit ?_; refine Fin.then ?_; refine St.regionK (fun K hK => ?_); refine Ops.move rfl rfl rfl ?_; refine Ops.ibin (iadd (by omega) (by omega)) rfl rfl rfl rfl ?_; refine Ops.assign rfl rfl rfl ?_; refine Ops.nil (hK _ _ ?_); clear hK K; refine Fin.thenN ?_)
        refine Fin.next (i + 1, zs) (by dsimp only; omega) fe (by exact Entails.of rfl ⟨rfl, rfl, rfl, by simp only [Int.natCast_add]; rfl, trivial⟩)
  · have hi' : i = (limbs a).length := by omega
    have e4 : trimL out = limbs (a * b) := by
      rw [trim_limbs hok, hv, hi', pre_all (Nat.le_refl _), val_limbs]
      congr 1
    refine St.freeze 0 _ rfl (ints_frozen _ _) noBor_sub ?_
    (refine St.exit ?_; refine Fin.then ?_; refine St.seq ?_; refine St.regionK (fun K hK => ?_); refine Ops.move rfl rfl rfl ?_)
    refine Ops.call gorTrim (rTrim_ok out (by omega)) rfl rfl rfl rfl ?_
    rw [e4]
    (refine Ops.assign rfl rfl rfl ?_; refine Ops.nil (hK _ _ ?_); clear hK K; refine Fin.then ?_; refine St.ret ?_)
    refine Fin.ret [_] rfl (AllRes.tmp rfl AllRes.nil) rfl rfl
theorem gorTimes : InGo Tryz.prog 94 := InGo.of Tryz.func94 (by kernel_rfl) (by kernel_rfl)
end Go.Proofs.YtdhmbgogmoaofaaGreat
namespace Go.Proofs.YtdhmbgogmoaofaaGreat
open Go.Own Go.Limbs
attribute [local irreducible] St Ops Go.Own.Fin Ok
theorem uU64 : Tryz.prog.underlying 149 = some (.int .u64) := Tryz.underlying149
theorem uI64 : Tryz.prog.underlying 3 = some (.int .i64) := Tryz.underlying3
abbrev wordC (x : Int) : CT := .ex (.int .u64 x)
set_option maxHeartbeats 2000000 in
theorem rWord_ok (n : Nat) (hn : n < 18446744073709551616) : Ok Tryz.prog 147 [wordC n] (natC n) := by
  refine Ok.enter Tryz.func147 rfl _ Tryz.ntmps147 rfl ?_
  intro S w
  (refine St.seq ?_; refine St.regionK (fun K hK => ?_); refine Ops.assign rfl rfl rfl ?_; refine Ops.nil (hK _ _ ?_); clear hK K; refine Fin.then ?_; refine St.seq ?_; refine St.regionK (fun K hK => ?_); refine Ops.assign rfl rfl rfl ?_; refine Ops.nil (hK _ _ ?_); clear hK K; refine Fin.then ?_; refine St.seq ?_; refine St.block ?_)
  refine St.nilRow 3 0 3 1 rfl rfl rfl ?_
  skip
  refine St.loop (α := Nat × List Int) (fun s => s.1 ≤ n ∧ limbs n = s.2 ++ limbs s.1)
    (fun s => [(0, .ct (wordC s.1)), (3, .own 0)]) (fun s => [(0, .row 3 1 (ints s.2))]) (fun s => s.1) (n, []) ⟨Nat.le_refl _, rfl⟩ (by exact Entails.of rfl ⟨rfl, rfl, trivial⟩) ?_
  rintro ⟨m, zs⟩ ⟨hm, hv⟩
  dsimp only at hm hv ⊢
  have hl : zs.length ≤ 64 := by
    have h1 := congrArg List.length hv
    have h2 := limbs_length_le (n := n) (k := 3) (by omega)
    simp at h1; omega
  (refine St.seq ?_; refine St.seq ?_; refine St.regionK (fun K hK => ?_); refine Ops.move rfl rfl rfl ?_; refine Ops.ibin igtr rfl rfl rfl rfl ?_; refine Ops.nil (hK _ _ ?_); clear hK K; refine Fin.then ?_)
  refine St.condP rfl (fun h => ?_) (fun h => ?_)
  · (refine St.skip ?_; refine Fin.then ?_; refine St.seq ?_; refine St.block ?_; refine St.regionK (fun K hK => ?_); refine Ops.move rfl rfl rfl ?_; refine Ops.move rfl rfl rfl ?_)
    refine Ops.ibin (urem (by omega) (by omega)) rfl rfl rfl rfl ?_
    refine Ops.conv rfl rfl (by with_reducible exact uU64) (by with_reducible exact uI64) (wrap_id (by omega) (by omega)) rfl ?_
    refine Ops.lit1 rfl rfl (by with_reducible exact sNat) rfl rfl rfl ?_
    refine Ops.append1 zs.length (ints (zs ++ [(m : Int) % 1073741824])) rfl rfl rfl rfl (by with_reducible exact sNat) (by simp [ints]) rfl (by omega) (by omega) (by simp [ints]) rfl ?_
    (refine Ops.assign rfl rfl rfl ?_; refine Ops.nil (hK _ _ ?_); clear hK K; refine Fin.then ?_; refine St.regionK (fun K hK => ?_); refine Ops.move rfl rfl rfl ?_)
    refine Ops.ibin (uquo (by omega) (by omega) (by omega)) rfl rfl rfl rfl ?_
    (refine Ops.assign rfl rfl rfl ?_; refine Ops.nil (hK _ _ ?_); clear hK K; refine Fin.thenN ?_)
    refine Fin.next (m / 1073741824, zs ++ [(m : Int) % 1073741824]) (by dsimp only; omega) ⟨by dsimp only; omega, ?_⟩ ?_
    all_goals dsimp only
    · rw [hv, limbs_pos (n := m) (by omega)]; simp
    · exact Entails.of rfl ⟨by rw [Int.natCast_ediv]; rfl, rfl, trivial⟩
  · have : m = 0 := by omega
    subst this
    rw [limbs_zero, List.append_nil] at hv
    subst hv
    refine St.freeze 0 _ rfl (ints_frozen _ _) noBor_sub ?_
    (refine St.exit ?_; refine Fin.then ?_; refine St.seq ?_; refine St.regionK (fun K hK => ?_); refine Ops.move rfl rfl rfl ?_; refine Ops.assign rfl rfl rfl ?_; refine Ops.nil (hK _ _ ?_); clear hK K; refine Fin.then ?_; refine St.ret ?_)
    refine Fin.ret [_] rfl (AllRes.tmp rfl AllRes.nil) rfl rfl
theorem gorWord : InGo Tryz.prog 147 := InGo.of Tryz.func147 (by kernel_rfl) (by kernel_rfl)
end Go.Proofs.YtdhmbgogmoaofaaGreat
namespace Go.Proofs.YtdhmbgogmoaofaaGreat
open Go.Own Go.Limbs
attribute [local irreducible] St Ops Go.Own.Fin Ok
theorem cmpI_le {a b : Int} : cmpI a b ≤ 0 ↔ a ≤ b := by unfold cmpI; split <;> (try split) <;> omega
theorem rTimes_one (b m : Nat) (h0 : 0 < m) (h1 : m < 1073741824) (hl : (limbs b).length ≤ 100000) : Ok Tryz.prog 94 [natC b, .fr (sliceT 1 [[intC m]])] (natC (b * m)) := by
  have h := rTimes_ok b m (by rw [limbs_one h0 h1]; simp; omega)
  have e : natC m = .fr (sliceT 1 [[intC m]]) := by show intsC (limbs m) = _; rw [limbs_one h0 h1]; rfl
  rw [← e]; exact h
theorem split_step {v b r R A p x P d : Int} (K : Int) (hR : R = r * K + x) (hv : v * b + r * (P * K) = A - (p + x * P)) : (v + d * P) * b + (R - b * d) * P = A - p := by
  subst hR; grind
theorem len_lt_mul {R b k : Nat} (h : (limbs b).length ≤ k) (hR : R < b * 1073741824) : (limbs R).length ≤ k + 1 := by
  refine limbs_length_le ?_
  rw [Nat.pow_succ]
  exact Nat.lt_trans hR (Nat.mul_lt_mul_of_pos_right (lt_of_limbs_length h) (by decide))
set_option maxHeartbeats 4000000 in
theorem rSplit_ok (a b : Nat) (hb : 0 < b) (la : (limbs a).length ≤ 10000) (lb : (limbs b).length ≤ 10000) : Ok Tryz.prog 103 [natC a, natC b] (.fr (tupT [natC (a / b), natC (a % b)])) := by
  refine Ok.enter Tryz.func103 rfl _ Tryz.ntmps103 rfl ?_
  intro S w
  (refine St.seq ?_; refine St.regionK (fun K hK => ?_); refine Ops.assign rfl rfl rfl ?_; refine Ops.assign rfl rfl rfl ?_; refine Ops.nil (hK _ _ ?_); clear hK K; refine Fin.then ?_; refine St.seq ?_; refine St.regionK (fun K hK => ?_); refine Ops.move rfl rfl rfl ?_; refine Ops.lenF rfl rfl (by with_reducible first | exact sNat.und | exact sInts.und) (List.length_map ..) rfl ?_)
  refine Ops.make 0 (limbs a).length rfl rfl rfl rfl (by with_reducible exact sNat) (by omega) (by omega) rfl rfl rfl ?_
  rw [ints_made]
  (refine Ops.assign rfl rfl rfl ?_; refine Ops.nil (hK _ _ ?_); clear hK K; refine Fin.then ?_; refine St.seq ?_; refine St.regionK (fun K hK => ?_); refine Ops.assign rfl rfl rfl ?_; refine Ops.nil (hK _ _ ?_); clear hK K; refine Fin.then ?_; refine St.seq ?_; refine St.seq ?_; refine St.regionK (fun K hK => ?_); refine Ops.move rfl rfl rfl ?_; refine Ops.lenF rfl rfl (by with_reducible first | exact sNat.und | exact sInts.und) (List.length_map ..) rfl ?_; refine Ops.ibin (isub (by omega) (by omega)) rfl rfl rfl rfl ?_; refine Ops.assign rfl rfl rfl ?_; refine Ops.nil (hK _ _ ?_); clear hK K; refine Fin.then ?_; refine St.block ?_)
  refine St.asNil 7 1 rfl ?_
  refine St.loop (α := Nat × List Int × Nat) (fun s => s.1 ≤ (limbs a).length ∧ s.2.1.length = (limbs a).length ∧ OKL s.2.1 ∧ (∀ j, j < s.1 → s.2.1.getD j 0 = 0) ∧ s.2.2 < b ∧ val s.2.1 * b + s.2.2 * BB ^ s.1 = val (limbs a) - pre (limbs a) s.1)
    (fun s => [(0, .ct (natC a)), (1, .ct (natC b)), (6, .own 0), (7, .ct (natC s.2.2)), (8, .ct (intC ((s.1 : Int) - 1)))])
    (fun s => [(0, .row 3 1 (ints s.2.1))]) (fun s => s.1) ((limbs a).length, List.replicate (limbs a).length 0, 0) ⟨Nat.le_refl _, by simp, OKL.zeros _, ?_, hb, ?_⟩ (by exact Entails.of rfl ⟨rfl, rfl, rfl, by rw [natC_zero]; rfl, rfl, trivial⟩) ?_
  · intro j _; simp [List.getD_eq_getElem?_getD, List.getElem?_replicate]; split <;> rfl
  · dsimp only; rw [val_zeros, pre_all (Nat.le_refl _)]; simp
  rintro ⟨q, zs, rr⟩ ⟨hq, hzl, hok, hz, hrb, hv⟩
  dsimp only at hq hzl hok hz hrb hv ⊢
  (refine St.seq ?_; refine St.seq ?_; refine St.regionK (fun K hK => ?_); refine Ops.move rfl rfl rfl ?_; refine Ops.ibin igeq rfl rfl rfl rfl ?_; refine Ops.nil (hK _ _ ?_); clear hK K; refine Fin.then ?_)
  refine St.condP rfl (fun h => ?_) (fun h => ?_)
  · obtain ⟨i, rfl⟩ : ∃ i, q = i + 1 := ⟨q - 1, by omega⟩
    have e1 : (((i + 1 : Nat) : Int) - 1) = (i : Int) := by omega
    have e2 : (i : Int).toNat = i := Int.toNat_natCast i
    have e3 : (i : Int).toNat * 1 = i := by omega
    have bx := (limbs_ok a).get i
    simp only [BB] at bx
    obtain ⟨R, hR⟩ : ∃ R : Nat, (R : Int) = rr * 1073741824 + (limbs a).getD i 0 := ⟨((rr : Int) * 1073741824 + (limbs a).getD i 0).toNat, by omega⟩
    have lrr : (limbs rr).length ≤ 10000 := Nat.le_trans (limbs_len_mono (Nat.le_of_lt hrb)) lb
    have eT : trimL ((limbs a).getD i 0 :: limbs rr) = limbs R := by
      rw [trim_limbs (OKL.cons (by simp only [BB]; omega) (limbs_ok rr))]
      simp only [val]; rw [val_limbs]; congr 1; simp only [BB]; omega
    have hRb : R < b * 1073741824 := by
      have h1 : (rr + 1) * 1073741824 ≤ b * 1073741824 := Nat.mul_le_mul_right _ (by omega)
      omega
    have lR : (limbs R).length ≤ 10001 := len_lt_mul lb hRb
    rw [pre_succ, Int.pow_succ] at hv
    rw [e1]
    (refine St.skip ?_; refine Fin.then ?_; refine St.seq ?_; refine St.block ?_; refine St.seq ?_; refine St.regionK (fun K hK => ?_); refine Ops.move rfl rfl rfl ?_; refine Ops.move rfl rfl rfl ?_; refine Ops.idxF rfl rfl rfl (by with_reducible first | exact sNat | exact sInts) (by omega) (ints_at (by omega) (by omega)) rfl ?_; refine Ops.ld1F rfl rfl rfl (by with_reducible first | exact lInt | exact lNat | exact lBool | exact lInts) rfl ?_)
    rw [e2]
    refine Ops.lit1E 1 rfl rfl (by with_reducible exact sNat) rfl rfl rfl rfl rfl ?_
    (refine Ops.move rfl rfl rfl ?_)
    refine Ops.append 1 (ints ((limbs a).getD i 0 :: limbs rr)) rfl rfl rfl rfl (by with_reducible exact sNat) rfl ?_ (by simp; omega) (by simp; omega) ?_ rfl ?_
    · rw [flat_one]; exact ints_ones _
    · rw [flat_one]; rfl
    refine Ops.freeze 1 _ rfl (ints_frozen _ _) noBor_sub ?_
    refine Ops.call gorTrim (rTrim_ok _ (by simp; omega)) rfl rfl rfl rfl ?_
    rw [eT]
    (refine Ops.assign rfl rfl rfl ?_; refine Ops.nil (hK _ _ ?_); clear hK K; refine Fin.then ?_; refine St.seq ?_; refine St.seq ?_; refine St.regionK (fun K hK => ?_); refine Ops.move rfl rfl rfl ?_; refine Ops.move rfl rfl rfl ?_)
    refine Ops.call gorCompare (rCompare_ok R b (by omega) (by omega)) rfl rfl rfl rfl ?_
    (refine Ops.ibin ilss rfl rfl rfl rfl ?_; refine Ops.nil (hK _ _ ?_); clear hK K; refine Fin.then ?_)
    refine St.condP rfl (fun h2 => ?_) (fun h2 => ?_)
    · rw [cmpI_neg] at h2
      (refine St.exit ?_; refine Fin.then ?_; refine St.regionK (fun K hK => ?_); refine Ops.move rfl rfl rfl ?_; refine Ops.ibin (isub (by omega) (by omega)) rfl rfl rfl rfl ?_; refine Ops.assign rfl rfl rfl ?_; refine Ops.nil (hK _ _ ?_); clear hK K; refine Fin.thenN ?_)
      refine Fin.next (i, zs, R) (by dsimp only; omega) ⟨by dsimp only; omega, hzl, hok, fun j hj => hz j (by dsimp only at hj; omega), by dsimp only; omega, ?_⟩ (by exact Entails.of rfl ⟨rfl, rfl, rfl, rfl, rfl, trivial⟩)
      dsimp only
      have := split_step (d := 0) BB hR hv
      simpa using this
    · rw [cmpI_neg] at h2
      (refine St.skip ?_; refine Fin.then ?_; refine St.seq ?_; refine St.regionK (fun K hK => ?_); refine Ops.assign rfl rfl rfl ?_; refine Ops.assign rfl rfl rfl ?_; refine Ops.nil (hK _ _ ?_); clear hK K; refine Fin.then ?_; refine St.seq ?_; refine St.block ?_)
      refine St.loop (α := Nat × Nat) (fun s => 1 ≤ s.1 ∧ s.1 ≤ s.2 ∧ s.2 ≤ 1073741823 ∧ b * s.1 ≤ R ∧ R < b * (s.2 + 1))
        (fun s => [(0, .ct (natC a)), (1, .ct (natC b)), (6, .own 0), (7, .ct (natC R)), (8, .ct (intC i)), (9, .ct (intC s.1)), (10, .ct (intC s.2))])
        (fun _ => [(0, .row 3 1 (ints zs))]) (fun s => s.2 - s.1) (1, 1073741823) ⟨Nat.le_refl _, by decide, Nat.le_refl _, by omega, hRb⟩ (by exact Entails.of rfl ⟨rfl, rfl, rfl, rfl, rfl, rfl, rfl, trivial⟩) ?_
      rintro ⟨lo, hi⟩ ⟨k1, k2, k3, k4, k5⟩
      dsimp only at k1 k2 k3 k4 k5 ⊢
      (refine St.seq ?_; refine St.seq ?_; refine St.regionK (fun K hK => ?_); refine Ops.move rfl rfl rfl ?_; refine Ops.move rfl rfl rfl ?_; refine Ops.ibin ilss rfl rfl rfl rfl ?_; refine Ops.nil (hK _ _ ?_); clear hK K; refine Fin.then ?_)
      refine St.condP rfl (fun h3 => ?_) (fun h3 => ?_)
      · obtain ⟨m, hm⟩ : ∃ m : Nat, m = (lo + hi + 1) / 2 := ⟨_, rfl⟩
        have em : ((lo : Int) + hi + 1) / 2 = (m : Int) := by omega
        have lbm : (limbs (b * m)).length ≤ 10001 := Nat.le_trans limbs_mul_len (by
          have := limbs_length_le (n := m) (k := 1) (by omega)
          omega)
        (refine St.skip ?_; refine Fin.then ?_; refine St.block ?_; refine St.seq ?_; refine St.regionK (fun K hK => ?_); refine Ops.move rfl rfl rfl ?_; refine Ops.move rfl rfl rfl ?_; refine Ops.ibin (iadd (by omega) (by omega)) rfl rfl rfl rfl ?_; refine Ops.ibin (iadd (by omega) (by omega)) rfl rfl rfl rfl ?_; refine Ops.ibin (iquo (by omega) (by omega) (by omega)) rfl rfl rfl rfl ?_; refine Ops.assign rfl rfl rfl ?_; refine Ops.nil (hK _ _ ?_); clear hK K; refine Fin.then ?_; refine St.seq ?_; refine St.regionK (fun K hK => ?_); refine Ops.move rfl rfl rfl ?_; refine Ops.move rfl rfl rfl ?_)
        rw [em]
        skip
        refine Ops.lit1 rfl rfl (by with_reducible exact sNat) rfl rfl rfl ?_
        refine Ops.call gorTimes (rTimes_one b m (by omega) (by omega) (by omega)) rfl rfl rfl rfl ?_
        (refine Ops.move rfl rfl rfl ?_)
        refine Ops.call gorCompare (rCompare_ok (b * m) R (by omega) (by omega)) rfl rfl rfl rfl ?_
        (refine Ops.ibin ileq rfl rfl rfl rfl ?_; refine Ops.nil (hK _ _ ?_); clear hK K; refine Fin.then ?_)
        refine St.condP rfl (fun h4 => ?_) (fun h4 => ?_)
        · rw [cmpI_le] at h4
          (refine St.regionK (fun K hK => ?_); refine Ops.move rfl rfl rfl ?_; refine Ops.assign rfl rfl rfl ?_; refine Ops.nil (hK _ _ ?_); clear hK K; refine Fin.blockN ?_; refine Fin.thenN ?_)
          refine Fin.next (m, hi) (by dsimp only; omega) ⟨by dsimp only; omega, by dsimp only; omega, k3, by dsimp only; omega, k5⟩ (by exact Entails.of rfl ⟨rfl, rfl, rfl, rfl, rfl, rfl, rfl, trivial⟩)
        · rw [cmpI_le] at h4
          (refine St.regionK (fun K hK => ?_); refine Ops.move rfl rfl rfl ?_; refine Ops.ibin (isub (by omega) (by omega)) rfl rfl rfl rfl ?_; refine Ops.assign rfl rfl rfl ?_; refine Ops.nil (hK _ _ ?_); clear hK K; refine Fin.blockN ?_; refine Fin.thenN ?_)
          refine Fin.next (lo, m - 1) (by dsimp only; omega) ⟨k1, by dsimp only; omega, by dsimp only; omega, k4, ?_⟩ (by exact Entails.of rfl ⟨rfl, rfl, rfl, rfl, rfl, rfl, by rw [show ((m - 1 : Nat) : Int) = (m : Int) - 1 by omega]; rfl, trivial⟩)
          dsimp only
          rw [show m - 1 + 1 = m by omega]; omega
      · have h6 : lo = hi := by omega
        subst h6
        have lbm : (limbs (b * lo)).length ≤ 10001 := Nat.le_trans limbs_mul_len (by
          have := limbs_length_le (n := lo) (k := 1) (by omega)
          omega)
        (refine St.exit ?_; refine Fin.then ?_; refine St.seq ?_; refine St.regionK (fun K hK => ?_); refine Ops.move rfl rfl rfl ?_; refine Ops.move rfl rfl rfl ?_; refine Ops.move rfl rfl rfl ?_)
        refine Ops.idxR (limbs a).length rfl rfl rfl (by simp [ints]; omega) rfl (by with_reducible exact sNat) (by omega) (by omega) rfl ?_
        rw [e3]
        refine Ops.st1A rfl rfl rfl rfl rfl (by with_reducible exact zInt) (by simp [Ent.cs, ints]; omega) ?_
        simp only [Ent.setc, ints_set]
        (refine Ops.nil (hK _ _ ?_); clear hK K; refine Fin.then ?_; refine St.regionK (fun K hK => ?_); refine Ops.move rfl rfl rfl ?_; refine Ops.move rfl rfl rfl ?_; refine Ops.move rfl rfl rfl ?_)
        refine Ops.lit1 rfl rfl (by with_reducible exact sNat) rfl rfl rfl ?_
        refine Ops.call gorTimes (rTimes_one b lo (by omega) (by omega) (by omega)) rfl rfl rfl rfl ?_
        refine Ops.call gorLess (rLess_ok R (b * lo) k4 (by omega)) rfl rfl rfl rfl ?_
        (refine Ops.assign rfl rfl rfl ?_; refine Ops.nil (hK _ _ ?_); clear hK K; refine Fin.then ?_; refine St.regionK (fun K hK => ?_); refine Ops.move rfl rfl rfl ?_; refine Ops.ibin (isub (by omega) (by omega)) rfl rfl rfl rfl ?_; refine Ops.assign rfl rfl rfl ?_; refine Ops.nil (hK _ _ ?_); clear hK K; refine Fin.thenN ?_)
        refine Fin.next (i, zs.set i (lo : Int), R - b * lo) (by dsimp only; omega) ⟨by dsimp only; omega, by simp [hzl], ?_, ?_, ?_, ?_⟩ (by exact Entails.of rfl ⟨rfl, rfl, rfl, rfl, rfl, trivial⟩)
        all_goals dsimp only
        · exact hok.set _ (by simp only [BB]; omega)
        · intro j hj; rw [getD_set (by omega), if_neg (by omega)]; exact hz j (by omega)
        · rw [Nat.mul_add] at k5; omega
        · rw [val_set (by omega), hz i (by omega), Int.sub_zero, show ((R - b * lo : Nat) : Int) = (R : Int) - b * lo by rw [Int.natCast_sub k4, Int.natCast_mul]]
          exact split_step BB hR hv
  · have hq0 : q = 0 := by omega
    subst hq0
    have e4 : val zs * b + rr = a := by rw [pre_zero, val_limbs] at hv; simpa using hv
    have hvz := val_nonneg hok
    obtain ⟨Q, hQ⟩ : ∃ Q : Nat, val zs = Q := ⟨(val zs).toNat, by omega⟩
    rw [hQ] at e4
    have e4' : a = rr + Q * b := by
      have : ((Q * b + rr : Nat) : Int) = a := by rw [Int.natCast_add, Int.natCast_mul]; exact e4
      omega
    have e5 : a / b = Q ∧ a % b = rr := by
      rw [e4']
      constructor
      · rw [Nat.add_mul_div_right _ _ hb, Nat.div_eq_of_lt hrb]; omega
      · rw [Nat.add_mul_mod_self_right, Nat.mod_eq_of_lt hrb]
    refine St.freeze 0 _ rfl (ints_frozen _ _) noBor_sub ?_
    (refine St.exit ?_; refine Fin.then ?_; refine St.seq ?_; refine St.regionK (fun K hK => ?_); refine Ops.move rfl rfl rfl ?_)
    refine Ops.call gorTrim (rTrim_ok zs (by omega)) rfl rfl rfl rfl ?_
    rw [trim_limbs hok, hQ, Int.toNat_natCast]
    (refine Ops.move rfl rfl rfl ?_; refine Ops.assign rfl rfl rfl ?_; refine Ops.assign rfl rfl rfl ?_; refine Ops.nil (hK _ _ ?_); clear hK K; refine Fin.then ?_; refine St.ret ?_)
    refine Fin.ret [_, _] rfl (AllRes.tmp rfl (AllRes.tmp rfl AllRes.nil)) (by rw [e5.1, e5.2]; rfl) rfl
theorem gorSplit : InGo Tryz.prog 103 := InGo.of Tryz.func103 (by kernel_rfl) (by kernel_rfl)
end Go.Proofs.YtdhmbgogmoaofaaGreat
namespace Go.Proofs.YtdhmbgogmoaofaaGreat
open Go.Own Go.Limbs
attribute [local irreducible] St Ops Go.Own.Fin Ok
theorem limbs_get0 {x : Nat} (h : x ≠ 0) : (limbs x).getD 0 0 = ((x % 1073741824 : Nat) : Int) := by rw [limbs_pos h]; rfl
theorem gcd_half {x y : Nat} (hx : x % 2 = 0) (hy : y % 2 = 1) : Nat.gcd (x / 2) y = Nat.gcd x y := by
  have e : x = 2 * (x / 2) := by omega
  have hc : Nat.Coprime 2 y := by
    unfold Nat.Coprime
    rw [Nat.gcd_rec, hy]; rfl
  conv => rhs; rw [e]
  exact (hc.gcd_mul_left_cancel _).symm
theorem gcd_two {x y : Nat} (hx : x % 2 = 0) (hy : y % 2 = 0) : 2 * Nat.gcd (x / 2) (y / 2) = Nat.gcd x y := by
  rw [← Nat.gcd_mul_left, show 2 * (x / 2) = x by omega, show 2 * (y / 2) = y by omega]
theorem gcd_less {x y : Nat} (h : y ≤ x) : Nat.gcd (x - y) y = Nat.gcd x y := by
  conv => rhs; rw [show x = (x - y) + y by omega]
  rw [Nat.gcd_add_self_left]
theorem len_add {x y k : Nat} (h1 : x < 1073741824 ^ k) (h2 : y < 1073741824 ^ k) : (limbs (x + y)).length ≤ k + 1 := by
  refine limbs_length_le ?_
  rw [Nat.pow_succ]; omega
set_option maxHeartbeats 8000000 in
theorem rGcd_ok (a b : Nat) (la : (limbs a).length ≤ 10000) (lb : (limbs b).length ≤ 10000) : Ok Tryz.prog 140 [natC a, natC b] (natC (Nat.gcd a b)) := by
  refine Ok.enter Tryz.func140 rfl _ Tryz.ntmps140 rfl ?_
  intro S w
  (refine St.seq ?_; refine St.regionK (fun K hK => ?_); refine Ops.assign rfl rfl rfl ?_; refine Ops.nil (hK _ _ ?_); clear hK K; refine Fin.then ?_; refine St.seq ?_; refine St.seq ?_; refine St.regionK (fun K hK => ?_); refine Ops.move rfl rfl rfl ?_; refine Ops.lenF rfl rfl (by with_reducible first | exact sNat.und | exact sInts.und) (List.length_map ..) rfl ?_; refine Ops.ibin ieql rfl rfl rfl rfl ?_; refine Ops.move rfl rfl rfl ?_)
  have early : (limbs a).length = 0 ∨ (limbs b).length = 0 → natC (Nat.gcd a b) = natC (a + b) := by
    rintro (h | h)
    · have : a = 0 := limbs_nil (List.eq_nil_of_length_eq_zero h)
      subst this; simp
    · have : b = 0 := limbs_nil (List.eq_nil_of_length_eq_zero h)
      subst this; simp
  refine Ops.splitP 9 rfl (fun g1 => ?_) (fun g1 => ?_)
  · have ee := early (.inl (by omega))
    (refine Ops.skip rfl rfl rfl ?_; refine Ops.skip rfl rfl rfl ?_; refine Ops.skip rfl rfl rfl ?_; refine Ops.pickT rfl rfl rfl rfl ?_; refine Ops.nil (hK _ _ ?_); clear hK K; refine Fin.then ?_; refine St.condT rfl ?_; refine St.seq ?_; refine St.regionK (fun K hK => ?_); refine Ops.move rfl rfl rfl ?_; refine Ops.move rfl rfl rfl ?_)
    refine Ops.call gorPlus (rPlus_ok a b (by omega) (by omega)) rfl rfl rfl rfl ?_
    (refine Ops.assign rfl rfl rfl ?_; refine Ops.nil (hK _ _ ?_); clear hK K; refine Fin.then ?_; refine St.ret ?_; refine Fin.thenRet ?_)
    refine Fin.ret [_] rfl (AllRes.tmp rfl AllRes.nil) (by rw [ee]; rfl) rfl
  · (refine Ops.move rfl rfl rfl ?_; refine Ops.lenF rfl rfl (by with_reducible first | exact sNat.und | exact sInts.und) (List.length_map ..) rfl ?_; refine Ops.ibin ieql rfl rfl rfl rfl ?_; refine Ops.pickF rfl rfl rfl rfl ?_; refine Ops.nil (hK _ _ ?_); clear hK K; refine Fin.then ?_)
    refine St.condP rfl (fun g2 => ?_) (fun g2 => ?_)
    · have ee := early (.inr (by omega))
      (refine St.seq ?_; refine St.regionK (fun K hK => ?_); refine Ops.move rfl rfl rfl ?_; refine Ops.move rfl rfl rfl ?_)
      refine Ops.call gorPlus (rPlus_ok a b (by omega) (by omega)) rfl rfl rfl rfl ?_
      (refine Ops.assign rfl rfl rfl ?_; refine Ops.nil (hK _ _ ?_); clear hK K; refine Fin.then ?_; refine St.ret ?_; refine Fin.thenRet ?_)
      refine Fin.ret [_] rfl (AllRes.tmp rfl AllRes.nil) (by rw [ee]; rfl) rfl
    · have ha0 : a ≠ 0 := limbs_len_pos.mp (by omega)
      have hb0 : b ≠ 0 := limbs_len_pos.mp (by omega)
      clear early
      have e11 : natC 1 = .fr (sliceT 1 [[intC 1]]) := by show intsC (limbs 1) = _; rw [limbs_one (by decide) (by decide)]; rfl
      have h00 : (0 : Int).toNat = 0 := rfl
      (refine St.skip ?_; refine Fin.then ?_; refine St.seq ?_; refine St.regionK (fun K hK => ?_))
      refine Ops.lit1 rfl rfl (by with_reducible exact sNat) rfl rfl rfl ?_
      rw [← e11]
      (refine Ops.assign rfl rfl rfl ?_; refine Ops.nil (hK _ _ ?_); clear hK K; refine Fin.then ?_; refine St.seq ?_; refine St.block ?_)
      refine St.loop (α := Nat × Nat × Nat) (fun s => 0 < s.1 ∧ 0 < s.2.1 ∧ 0 < s.2.2 ∧ s.1 ≤ a ∧ s.2.1 ≤ b ∧ s.2.2 * s.1 ≤ a ∧ s.2.2 * Nat.gcd s.1 s.2.1 = Nat.gcd a b)
        (fun s => [(0, .ct (natC s.1)), (1, .ct (natC s.2.1)), (5, .ct (natC s.2.2))]) (fun _ => []) (fun s => s.1) (a, b, 1) ⟨by dsimp only; omega, by dsimp only; omega, Nat.one_pos, Nat.le_refl _, Nat.le_refl _, by dsimp only; omega, by dsimp only; omega⟩ (by exact Entails.of rfl ⟨rfl, rfl, rfl, trivial⟩) ?_
      rintro ⟨x, y, u⟩ ⟨hx, hy, hu, hxa, hyb, hua, hg⟩
      dsimp only at hx hy hu hxa hyb hua hg ⊢
      have lx : (limbs x).length ≤ 10000 := Nat.le_trans (limbs_len_mono hxa) la
      have ly : (limbs y).length ≤ 10000 := Nat.le_trans (limbs_len_mono hyb) lb
      have lu : (limbs u).length ≤ 10000 := Nat.le_trans (limbs_len_mono (Nat.le_trans (Nat.le_mul_of_pos_right u hx) hua)) la
      have px := limbs_len_pos.mpr (show x ≠ 0 by omega)
      have py := limbs_len_pos.mpr (show y ≠ 0 by omega)
      have gx := limbs_get0 (show x ≠ 0 by omega)
      have gy := limbs_get0 (show y ≠ 0 by omega)
      (refine St.seq ?_; refine St.seq ?_; refine St.regionK (fun K hK => ?_); refine Ops.move rfl rfl rfl ?_; refine Ops.idxF rfl rfl rfl (by with_reducible first | exact sNat | exact sInts) (by omega) (ints_at (by omega) (by omega)) rfl ?_; refine Ops.ld1F rfl rfl rfl (by with_reducible first | exact lInt | exact lNat | exact lBool | exact lInts) rfl ?_)
      rw [h00, gx]
      (refine Ops.ibin (irem (by omega) (by omega)) rfl rfl rfl rfl ?_; refine Ops.ibin ieql rfl rfl rfl rfl ?_; refine Ops.move rfl rfl rfl ?_)
      refine Ops.splitP 23 rfl (fun g3 => ?_) (fun g3 => ?_)
      · (refine Ops.move rfl rfl rfl ?_; refine Ops.idxF rfl rfl rfl (by with_reducible first | exact sNat | exact sInts) (by omega) (ints_at (by omega) (by omega)) rfl ?_; refine Ops.ld1F rfl rfl rfl (by with_reducible first | exact lInt | exact lNat | exact lBool | exact lInts) rfl ?_)
        rw [h00, gy]
        (refine Ops.ibin (irem (by omega) (by omega)) rfl rfl rfl rfl ?_; refine Ops.ibin ieql rfl rfl rfl rfl ?_; refine Ops.pickT rfl rfl rfl rfl ?_; refine Ops.nil (hK _ _ ?_); clear hK K; refine Fin.then ?_)
        refine St.condP rfl (fun g4 => ?_) (fun g4 => ?_)
        · (refine St.skip ?_; refine Fin.then ?_; refine St.block ?_; refine St.regionK (fun K hK => ?_); refine Ops.move rfl rfl rfl ?_)
          refine Ops.call gorhalf (rhalf_ok x (by omega)) rfl rfl rfl rfl ?_
          (refine Ops.move rfl rfl rfl ?_)
          refine Ops.call gorhalf (rhalf_ok y (by omega)) rfl rfl rfl rfl ?_
          (refine Ops.move rfl rfl rfl ?_; refine Ops.move rfl rfl rfl ?_)
          refine Ops.call gorPlus (rPlus_ok u u (by omega) (by omega)) rfl rfl rfl rfl ?_
          (refine Ops.assign rfl rfl rfl ?_; refine Ops.assign rfl rfl rfl ?_; refine Ops.assign rfl rfl rfl ?_; refine Ops.nil (hK _ _ ?_); clear hK K; refine Fin.blockN ?_; refine Fin.thenN ?_)
          have q1 := gcd_two (x := x) (y := y) (by omega) (by omega)
          refine Fin.next (x / 2, y / 2, u + u) (by dsimp only; omega) ⟨by dsimp only; omega, by dsimp only; omega, by dsimp only; omega, by dsimp only; omega, by dsimp only; omega, ?_, ?_⟩ (by exact Entails.of rfl ⟨rfl, rfl, rfl, trivial⟩)
          · dsimp only
            rw [← Nat.two_mul, Nat.mul_comm 2 u, Nat.mul_assoc, show 2 * (x / 2) = x by omega]; exact hua
          · dsimp only
            rw [← Nat.two_mul, Nat.mul_comm 2 u, Nat.mul_assoc, q1]; exact hg
        · have hodd : x % 2 = 1 ∨ y % 2 = 1 := by omega
          clear g3 g4 gx gy
          (refine St.exit ?_; refine Fin.then ?_; refine St.seq ?_; refine St.block ?_)
          refine St.loop (α := Nat × Nat) (fun s => s.1 ≤ a ∧ s.2 ≤ b ∧ (s.1 % 2 = 1 ∨ s.2 % 2 = 1) ∧ u * Nat.gcd s.1 s.2 = Nat.gcd a b)
            (fun s => [(0, .ct (natC s.1)), (1, .ct (natC s.2)), (5, .ct (natC u))]) (fun _ => []) (fun s => s.1 + s.2) (x, y) ⟨hxa, hyb, hodd, hg⟩ (by exact Entails.of rfl ⟨rfl, rfl, rfl, trivial⟩) ?_
          clear hodd hg hxa hyb hua px py lx ly hx hy
          rintro ⟨p, q⟩ ⟨hpa, hqb, hodd, hg⟩
          dsimp only at hpa hqb hodd hg ⊢
          have lp : (limbs p).length ≤ 10000 := Nat.le_trans (limbs_len_mono hpa) la
          have lq : (limbs q).length ≤ 10000 := Nat.le_trans (limbs_len_mono hqb) lb
          have done : p = 0 ∨ q = 0 → natC (Nat.gcd a b) = natC (u * (p + q)) := by
            rintro (h | h)
            · subst h; rw [← hg]; simp
            · subst h; rw [← hg]; simp
          have lpq : (limbs (p + q)).length ≤ 10001 := by
            have h1 := lt_of_limbs_length lp
            have h2 := lt_of_limbs_length lq
            exact len_add h1 h2
          (refine St.seq ?_; refine St.seq ?_; refine St.regionK (fun K hK => ?_); refine Ops.move rfl rfl rfl ?_; refine Ops.lenF rfl rfl (by with_reducible first | exact sNat.und | exact sInts.und) (List.length_map ..) rfl ?_; refine Ops.ibin igtr rfl rfl rfl rfl ?_; refine Ops.move rfl rfl rfl ?_)
          refine Ops.splitP 40 rfl (fun g5 => ?_) (fun g5 => ?_)
          · (refine Ops.move rfl rfl rfl ?_; refine Ops.lenF rfl rfl (by with_reducible first | exact sNat.und | exact sInts.und) (List.length_map ..) rfl ?_; refine Ops.ibin igtr rfl rfl rfl rfl ?_; refine Ops.pickT rfl rfl rfl rfl ?_; refine Ops.nil (hK _ _ ?_); clear hK K; refine Fin.then ?_)
            refine St.condP rfl (fun g6 => ?_) (fun g6 => ?_)
            · have hp0 : p ≠ 0 := limbs_len_pos.mp (by omega)
              have hq0 : q ≠ 0 := limbs_len_pos.mp (by omega)
              have gp := limbs_get0 hp0
              have gq := limbs_get0 hq0
              clear done
              (refine St.skip ?_; refine Fin.then ?_; refine St.block ?_; refine St.block ?_; refine St.seq ?_; refine St.regionK (fun K hK => ?_); refine Ops.move rfl rfl rfl ?_; refine Ops.idxF rfl rfl rfl (by with_reducible first | exact sNat | exact sInts) (by omega) (ints_at (by omega) (by omega)) rfl ?_; refine Ops.ld1F rfl rfl rfl (by with_reducible first | exact lInt | exact lNat | exact lBool | exact lInts) rfl ?_)
              rw [h00, gp]
              (refine Ops.ibin (irem (by omega) (by omega)) rfl rfl rfl rfl ?_; refine Ops.ibin ieql rfl rfl rfl rfl ?_; refine Ops.assign rfl rfl rfl ?_; refine Ops.nil (hK _ _ ?_); clear hK K; refine Fin.then ?_)
              refine St.condP rfl (fun g7 => ?_) (fun g7 => ?_)
              · have q1 := gcd_half (x := p) (y := q) (by omega) (by omega)
                (refine St.regionK (fun K hK => ?_); refine Ops.move rfl rfl rfl ?_)
                refine Ops.call gorhalf (rhalf_ok p (by omega)) rfl rfl rfl rfl ?_
                (refine Ops.assign rfl rfl rfl ?_; refine Ops.nil (hK _ _ ?_); clear hK K; refine Fin.blockN ?_; refine Fin.blockN ?_; refine Fin.thenN ?_)
                refine Fin.next (p / 2, q) (by dsimp only; omega) ⟨by dsimp only; omega, hqb, by dsimp only; omega, by dsimp only; rw [q1]; exact hg⟩ (by exact Entails.of rfl ⟨rfl, rfl, rfl, trivial⟩)
              · (refine St.seq ?_; refine St.regionK (fun K hK => ?_); refine Ops.move rfl rfl rfl ?_; refine Ops.idxF rfl rfl rfl (by with_reducible first | exact sNat | exact sInts) (by omega) (ints_at (by omega) (by omega)) rfl ?_; refine Ops.ld1F rfl rfl rfl (by with_reducible first | exact lInt | exact lNat | exact lBool | exact lInts) rfl ?_)
                rw [h00, gq]
                (refine Ops.ibin (irem (by omega) (by omega)) rfl rfl rfl rfl ?_; refine Ops.ibin ieql rfl rfl rfl rfl ?_; refine Ops.assign rfl rfl rfl ?_; refine Ops.nil (hK _ _ ?_); clear hK K; refine Fin.then ?_)
                refine St.condP rfl (fun g8 => ?_) (fun g8 => ?_)
                · have q1 := gcd_half (x := q) (y := p) (by omega) (by omega)
                  (refine St.regionK (fun K hK => ?_); refine Ops.move rfl rfl rfl ?_)
                  refine Ops.call gorhalf (rhalf_ok q (by omega)) rfl rfl rfl rfl ?_
                  (refine Ops.assign rfl rfl rfl ?_; refine Ops.nil (hK _ _ ?_); clear hK K; refine Fin.blockN ?_; refine Fin.blockN ?_; refine Fin.thenN ?_)
                  refine Fin.next (p, q / 2) (by dsimp only; omega) ⟨hpa, by dsimp only; omega, by dsimp only; omega, by dsimp only; rw [Nat.gcd_comm, q1, Nat.gcd_comm]; exact hg⟩ (by exact Entails.of rfl ⟨rfl, rfl, rfl, trivial⟩)
                · (refine St.seq ?_; refine St.regionK (fun K hK => ?_); refine Ops.move rfl rfl rfl ?_; refine Ops.move rfl rfl rfl ?_)
                  refine Ops.call gorCompare (rCompare_ok p q (by omega) (by omega)) rfl rfl rfl rfl ?_
                  (refine Ops.ibin igeq rfl rfl rfl rfl ?_; refine Ops.assign rfl rfl rfl ?_; refine Ops.nil (hK _ _ ?_); clear hK K; refine Fin.then ?_)
                  refine St.condP rfl (fun g9 => ?_) (fun g9 => ?_)
                  · have hle : q ≤ p := by have := cmpI_neg (a := p) (b := q); omega
                    have q1 := gcd_less hle
                    (refine St.regionK (fun K hK => ?_); refine Ops.move rfl rfl rfl ?_; refine Ops.move rfl rfl rfl ?_)
                    refine Ops.call gorLess (rLess_ok p q hle (by omega)) rfl rfl rfl rfl ?_
                    (refine Ops.assign rfl rfl rfl ?_; refine Ops.nil (hK _ _ ?_); clear hK K; refine Fin.blockN ?_; refine Fin.blockN ?_; refine Fin.thenN ?_)
                    refine Fin.next (p - q, q) (by dsimp only; omega) ⟨by dsimp only; omega, hqb, by dsimp only; omega, by dsimp only; rw [q1]; exact hg⟩ (by exact Entails.of rfl ⟨rfl, rfl, rfl, trivial⟩)
                  · have hle : p ≤ q := by have := cmpI_neg (a := p) (b := q); omega
                    have q1 := gcd_less hle
                    (refine St.regionK (fun K hK => ?_); refine Ops.move rfl rfl rfl ?_; refine Ops.move rfl rfl rfl ?_)
                    refine Ops.call gorLess (rLess_ok q p hle (by omega)) rfl rfl rfl rfl ?_
                    (refine Ops.assign rfl rfl rfl ?_; refine Ops.nil (hK _ _ ?_); clear hK K; refine Fin.blockN ?_; refine Fin.blockN ?_; refine Fin.thenN ?_)
                    refine Fin.next (p, q - p) (by dsimp only; omega) ⟨hpa, by dsimp only; omega, by dsimp only; omega, by dsimp only; rw [Nat.gcd_comm, q1, Nat.gcd_comm]; exact hg⟩ (by exact Entails.of rfl ⟨rfl, rfl, rfl, trivial⟩)
            · have hd := done (.inr (limbs_nil (List.eq_nil_of_length_eq_zero (by omega))))
              (refine St.exit ?_; refine Fin.then ?_; refine St.seq ?_; refine St.regionK (fun K hK => ?_); refine Ops.move rfl rfl rfl ?_; refine Ops.move rfl rfl rfl ?_; refine Ops.move rfl rfl rfl ?_)
              refine Ops.call gorPlus (rPlus_ok p q (by omega) (by omega)) rfl rfl rfl rfl ?_
              refine Ops.call gorTimes (rTimes_ok u (p + q) (by omega)) rfl rfl rfl rfl ?_
              (refine Ops.assign rfl rfl rfl ?_; refine Ops.nil (hK _ _ ?_); clear hK K; refine Fin.then ?_; refine St.ret ?_)
              refine Fin.ret [_] rfl (AllRes.tmp rfl AllRes.nil) (by rw [hd]; rfl) rfl
          · have hd := done (.inl (limbs_nil (List.eq_nil_of_length_eq_zero (by omega))))
            (refine Ops.skip rfl rfl rfl ?_; refine Ops.skip rfl rfl rfl ?_; refine Ops.skip rfl rfl rfl ?_; refine Ops.pickF rfl rfl rfl rfl ?_; refine Ops.nil (hK _ _ ?_); clear hK K; refine Fin.then ?_; refine St.condF rfl ?_; refine St.exit ?_; refine Fin.then ?_; refine St.seq ?_; refine St.regionK (fun K hK => ?_); refine Ops.move rfl rfl rfl ?_; refine Ops.move rfl rfl rfl ?_; refine Ops.move rfl rfl rfl ?_)
            refine Ops.call gorPlus (rPlus_ok p q (by omega) (by omega)) rfl rfl rfl rfl ?_
            refine Ops.call gorTimes (rTimes_ok u (p + q) (by omega)) rfl rfl rfl rfl ?_
            (refine Ops.assign rfl rfl rfl ?_; refine Ops.nil (hK _ _ ?_); clear hK K; refine Fin.then ?_; refine St.ret ?_)
            refine Fin.ret [_] rfl (AllRes.tmp rfl AllRes.nil) (by rw [hd]; rfl) rfl
      · have hodd : x % 2 = 1 ∨ y % 2 = 1 := by omega
        clear g3 gx gy
        (refine Ops.skip rfl rfl rfl ?_; refine Ops.skip rfl rfl rfl ?_; refine Ops.skip rfl rfl rfl ?_; refine Ops.skip rfl rfl rfl ?_; refine Ops.skip rfl rfl rfl ?_; refine Ops.pickF rfl rfl rfl rfl ?_; refine Ops.nil (hK _ _ ?_); clear hK K; refine Fin.then ?_; refine St.condF rfl ?_; refine St.exit ?_; refine Fin.then ?_; refine St.seq ?_; refine St.block ?_)
        refine St.loop (α := Nat × Nat) (fun s => s.1 ≤ a ∧ s.2 ≤ b ∧ (s.1 % 2 = 1 ∨ s.2 % 2 = 1) ∧ u * Nat.gcd s.1 s.2 = Nat.gcd a b)
          (fun s => [(0, .ct (natC s.1)), (1, .ct (natC s.2)), (5, .ct (natC u))]) (fun _ => []) (fun s => s.1 + s.2) (x, y) ⟨hxa, hyb, hodd, hg⟩ (by exact Entails.of rfl ⟨rfl, rfl, rfl, trivial⟩) ?_
        clear hodd hg hxa hyb hua px py lx ly hx hy
        rintro ⟨p, q⟩ ⟨hpa, hqb, hodd, hg⟩
        dsimp only at hpa hqb hodd hg ⊢
        have lp : (limbs p).length ≤ 10000 := Nat.le_trans (limbs_len_mono hpa) la
        have lq : (limbs q).length ≤ 10000 := Nat.le_trans (limbs_len_mono hqb) lb
        have done : p = 0 ∨ q = 0 → natC (Nat.gcd a b) = natC (u * (p + q)) := by
          rintro (h | h)
          · subst h; rw [← hg]; simp
          · subst h; rw [← hg]; simp
        have lpq : (limbs (p + q)).length ≤ 10001 := by
          have h1 := lt_of_limbs_length lp
          have h2 := lt_of_limbs_length lq
          exact len_add h1 h2
        (refine St.seq ?_; refine St.seq ?_; refine St.regionK (fun K hK => ?_); refine Ops.move rfl rfl rfl ?_; refine Ops.lenF rfl rfl (by with_reducible first | exact sNat.und | exact sInts.und) (List.length_map ..) rfl ?_; refine Ops.ibin igtr rfl rfl rfl rfl ?_; refine Ops.move rfl rfl rfl ?_)
        refine Ops.splitP 40 rfl (fun g5 => ?_) (fun g5 => ?_)
        · (refine Ops.move rfl rfl rfl ?_; refine Ops.lenF rfl rfl (by with_reducible first | exact sNat.und | exact sInts.und) (List.length_map ..) rfl ?_; refine Ops.ibin igtr rfl rfl rfl rfl ?_; refine Ops.pickT rfl rfl rfl rfl ?_; refine Ops.nil (hK _ _ ?_); clear hK K; refine Fin.then ?_)
          refine St.condP rfl (fun g6 => ?_) (fun g6 => ?_)
          · have hp0 : p ≠ 0 := limbs_len_pos.mp (by omega)
            have hq0 : q ≠ 0 := limbs_len_pos.mp (by omega)
            have gp := limbs_get0 hp0
            have gq := limbs_get0 hq0
            clear done
            (refine St.skip ?_; refine Fin.then ?_; refine St.block ?_; refine St.block ?_; refine St.seq ?_; refine St.regionK (fun K hK => ?_); refine Ops.move rfl rfl rfl ?_; refine Ops.idxF rfl rfl rfl (by with_reducible first | exact sNat | exact sInts) (by omega) (ints_at (by omega) (by omega)) rfl ?_; refine Ops.ld1F rfl rfl rfl (by with_reducible first | exact lInt | exact lNat | exact lBool | exact lInts) rfl ?_)
            rw [h00, gp]
            (refine Ops.ibin (irem (by omega) (by omega)) rfl rfl rfl rfl ?_; refine Ops.ibin ieql rfl rfl rfl rfl ?_; refine Ops.assign rfl rfl rfl ?_; refine Ops.nil (hK _ _ ?_); clear hK K; refine Fin.then ?_)
            refine St.condP rfl (fun g7 => ?_) (fun g7 => ?_)
            · have q1 := gcd_half (x := p) (y := q) (by omega) (by omega)
              (refine St.regionK (fun K hK => ?_); refine Ops.move rfl rfl rfl ?_)
              refine Ops.call gorhalf (rhalf_ok p (by omega)) rfl rfl rfl rfl ?_
              (refine Ops.assign rfl rfl rfl ?_; refine Ops.nil (hK _ _ ?_); clear hK K; refine Fin.blockN ?_; refine Fin.blockN ?_; refine Fin.thenN ?_)
              refine Fin.next (p / 2, q) (by dsimp only; omega) ⟨by dsimp only; omega, hqb, by dsimp only; omega, by dsimp only; rw [q1]; exact hg⟩ (by exact Entails.of rfl ⟨rfl, rfl, rfl, trivial⟩)
            · (refine St.seq ?_; refine St.regionK (fun K hK => ?_); refine Ops.move rfl rfl rfl ?_; refine Ops.idxF rfl rfl rfl (by with_reducible first | exact sNat | exact sInts) (by omega) (ints_at (by omega) (by omega)) rfl ?_; refine Ops.ld1F rfl rfl rfl (by with_reducible first | exact lInt | exact lNat | exact lBool | exact lInts) rfl ?_)
              rw [h00, gq]
              (refine Ops.ibin (irem (by omega) (by omega)) rfl rfl rfl rfl ?_; refine Ops.ibin ieql rfl rfl rfl rfl ?_; refine Ops.assign rfl rfl rfl ?_; refine Ops.nil (hK _ _ ?_); clear hK K; refine Fin.then ?_)
              refine St.condP rfl (fun g8 => ?_) (fun g8 => ?_)
              · have q1 := gcd_half (x := q) (y := p) (by omega) (by omega)
                (refine St.regionK (fun K hK => ?_); refine Ops.move rfl rfl rfl ?_)
                refine Ops.call gorhalf (rhalf_ok q (by omega)) rfl rfl rfl rfl ?_
                (refine Ops.assign rfl rfl rfl ?_; refine Ops.nil (hK _ _ ?_); clear hK K; refine Fin.blockN ?_; refine Fin.blockN ?_; refine Fin.thenN ?_)
                refine Fin.next (p, q / 2) (by dsimp only; omega) ⟨hpa, by dsimp only; omega, by dsimp only; omega, by dsimp only; rw [Nat.gcd_comm, q1, Nat.gcd_comm]; exact hg⟩ (by exact Entails.of rfl ⟨rfl, rfl, rfl, trivial⟩)
              · (refine St.seq ?_; refine St.regionK (fun K hK => ?_); refine Ops.move rfl rfl rfl ?_; refine Ops.move rfl rfl rfl ?_)
                refine Ops.call gorCompare (rCompare_ok p q (by omega) (by omega)) rfl rfl rfl rfl ?_
                (refine Ops.ibin igeq rfl rfl rfl rfl ?_; refine Ops.assign rfl rfl rfl ?_; refine Ops.nil (hK _ _ ?_); clear hK K; refine Fin.then ?_)
                refine St.condP rfl (fun g9 => ?_) (fun g9 => ?_)
                · have hle : q ≤ p := by have := cmpI_neg (a := p) (b := q); omega
                  have q1 := gcd_less hle
                  (refine St.regionK (fun K hK => ?_); refine Ops.move rfl rfl rfl ?_; refine Ops.move rfl rfl rfl ?_)
                  refine Ops.call gorLess (rLess_ok p q hle (by omega)) rfl rfl rfl rfl ?_
                  (refine Ops.assign rfl rfl rfl ?_; refine Ops.nil (hK _ _ ?_); clear hK K; refine Fin.blockN ?_; refine Fin.blockN ?_; refine Fin.thenN ?_)
                  refine Fin.next (p - q, q) (by dsimp only; omega) ⟨by dsimp only; omega, hqb, by dsimp only; omega, by dsimp only; rw [q1]; exact hg⟩ (by exact Entails.of rfl ⟨rfl, rfl, rfl, trivial⟩)
                · have hle : p ≤ q := by have := cmpI_neg (a := p) (b := q); omega
                  have q1 := gcd_less hle
                  (refine St.regionK (fun K hK => ?_); refine Ops.move rfl rfl rfl ?_; refine Ops.move rfl rfl rfl ?_)
                  refine Ops.call gorLess (rLess_ok q p hle (by omega)) rfl rfl rfl rfl ?_
                  (refine Ops.assign rfl rfl rfl ?_; refine Ops.nil (hK _ _ ?_); clear hK K; refine Fin.blockN ?_; refine Fin.blockN ?_; refine Fin.thenN ?_)
                  refine Fin.next (p, q - p) (by dsimp only; omega) ⟨hpa, by dsimp only; omega, by dsimp only; omega, by dsimp only; rw [Nat.gcd_comm, q1, Nat.gcd_comm]; exact hg⟩ (by exact Entails.of rfl ⟨rfl, rfl, rfl, trivial⟩)
          · have hd := done (.inr (limbs_nil (List.eq_nil_of_length_eq_zero (by omega))))
            (refine St.exit ?_; refine Fin.then ?_; refine St.seq ?_; refine St.regionK (fun K hK => ?_); refine Ops.move rfl rfl rfl ?_; refine Ops.move rfl rfl rfl ?_; refine Ops.move rfl rfl rfl ?_)
            refine Ops.call gorPlus (rPlus_ok p q (by omega) (by omega)) rfl rfl rfl rfl ?_
            refine Ops.call gorTimes (rTimes_ok u (p + q) (by omega)) rfl rfl rfl rfl ?_
            (refine Ops.assign rfl rfl rfl ?_; refine Ops.nil (hK _ _ ?_); clear hK K; refine Fin.then ?_; refine St.ret ?_)
            refine Fin.ret [_] rfl (AllRes.tmp rfl AllRes.nil) (by rw [hd]; rfl) rfl
        · have hd := done (.inl (limbs_nil (List.eq_nil_of_length_eq_zero (by omega))))
          (refine Ops.skip rfl rfl rfl ?_; refine Ops.skip rfl rfl rfl ?_; refine Ops.skip rfl rfl rfl ?_; refine Ops.pickF rfl rfl rfl rfl ?_; refine Ops.nil (hK _ _ ?_); clear hK K; refine Fin.then ?_; refine St.condF rfl ?_; refine St.exit ?_; refine Fin.then ?_; refine St.seq ?_; refine St.regionK (fun K hK => ?_); refine Ops.move rfl rfl rfl ?_; refine Ops.move rfl rfl rfl ?_; refine Ops.move rfl rfl rfl ?_)
          refine Ops.call gorPlus (rPlus_ok p q (by omega) (by omega)) rfl rfl rfl rfl ?_
          refine Ops.call gorTimes (rTimes_ok u (p + q) (by omega)) rfl rfl rfl rfl ?_
          (refine Ops.assign rfl rfl rfl ?_; refine Ops.nil (hK _ _ ?_); clear hK K; refine Fin.then ?_; refine St.ret ?_)
          refine Fin.ret [_] rfl (AllRes.tmp rfl AllRes.nil) (by rw [hd]; rfl) rfl
theorem gorGcd : InGo Tryz.prog 140 := InGo.of Tryz.func140 (by kernel_rfl) (by kernel_rfl)
end Go.Proofs.YtdhmbgogmoaofaaGreat
namespace Go.Proofs.YtdhmbgogmoaofaaGreat
open Go.Own Go.Limbs
attribute [local irreducible] St Ops Go.Own.Fin Ok
theorem rmagnitude_ok (n : Int) (h1 : -9223372036854775808 ≤ n) (h2 : n ≤ 9223372036854775807) : Ok Tryz.prog 112 [intC n] (natC n.natAbs) := by
  refine Ok.enter Tryz.func112 rfl _ Tryz.ntmps112 rfl ?_
  intro S w
  (refine St.seq ?_; refine St.regionK (fun K hK => ?_); refine Ops.assign rfl rfl rfl ?_; refine Ops.nil (hK _ _ ?_); clear hK K; refine Fin.then ?_; refine St.seq ?_; refine St.seq ?_; refine St.regionK (fun K hK => ?_); refine Ops.move rfl rfl rfl ?_; refine Ops.ibin ilss rfl rfl rfl rfl ?_; refine Ops.nil (hK _ _ ?_); clear hK K; refine Fin.then ?_)
  refine St.condP rfl (fun h => ?_) (fun h => ?_)
  · (refine St.seq ?_; refine St.regionK (fun K hK => ?_); refine Ops.move rfl rfl rfl ?_; refine Ops.ibin (iadd (by omega) (by omega)) rfl rfl rfl rfl ?_)
    refine Ops.ineg rfl rfl (by omega) (by omega) rfl ?_
    refine Ops.conv rfl rfl (by with_reducible exact uI64) (by with_reducible exact uU64) (wrap_u (by omega) (by omega)) rfl ?_
    refine Ops.ibin (uadd (by omega) (by omega)) rfl rfl rfl rfl ?_
    rw [show -(n + 1) + 1 = (n.natAbs : Int) by omega]
    refine Ops.call gorWord (rWord_ok n.natAbs (by omega)) rfl rfl rfl rfl ?_
    (refine Ops.assign rfl rfl rfl ?_; refine Ops.nil (hK _ _ ?_); clear hK K; refine Fin.then ?_; refine St.ret ?_; refine Fin.thenRet ?_)
    refine Fin.ret [_] rfl (AllRes.tmp rfl AllRes.nil) rfl rfl
  · (refine St.skip ?_; refine Fin.then ?_; refine St.seq ?_; refine St.regionK (fun K hK => ?_); refine Ops.move rfl rfl rfl ?_)
    refine Ops.conv rfl rfl (by with_reducible exact uI64) (by with_reducible exact uU64) (wrap_u (by omega) (by omega)) rfl ?_
    rw [show n = (n.natAbs : Int) by omega]
    refine Ops.call gorWord (rWord_ok n.natAbs (by omega)) rfl rfl rfl rfl ?_
    (refine Ops.assign rfl rfl rfl ?_; refine Ops.nil (hK _ _ ?_); clear hK K; refine Fin.then ?_; refine St.ret ?_)
    refine Fin.ret [_] rfl (AllRes.tmp rfl AllRes.nil) rfl rfl
theorem gormagnitude : InGo Tryz.prog 112 := InGo.of Tryz.func112 (by kernel_rfl) (by kernel_rfl)
set_option maxHeartbeats 2000000 in
theorem rreduced_ok (neg : Bool) (a b : Nat) (h0 : 0 < b) (la : (limbs a).length ≤ 10000) (lb : (limbs b).length ≤ 10000) : Ok Tryz.prog 93 [boolC neg, natC a, natC b] (fracC (redF neg a b)) := by
  have hg0 : 0 < Nat.gcd a b := Nat.gcd_pos_of_pos_right _ h0
  have hg1 : Nat.gcd a b ≤ b := Nat.gcd_le_right _ h0
  have lg : (limbs (Nat.gcd a b)).length ≤ 10000 := Nat.le_trans (limbs_len_mono hg1) lb
  have h1 := rGcd_ok a b la lb
  have h2 := rSplit_ok a _ hg0 la lg
  have h3 := rSplit_ok b _ hg0 lb lg
  have e0 : a ≠ 0 → redF neg a b = ⟨neg, a / Nat.gcd a b, b / Nat.gcd a b⟩ := fun ha => by
    unfold redF
    have : a / Nat.gcd a b ≠ 0 := by
      have := Nat.div_pos (Nat.gcd_le_left b (Nat.pos_of_ne_zero ha)) hg0
      omega
    simp [this]
  have e1 : a = 0 → redF neg a b = ⟨false, 0, 1⟩ := fun ha => by
    subst ha; unfold redF; simp [Nat.div_self h0]
  have e11 : natC 1 = .fr (sliceT 1 [[intC 1]]) := by show intsC (limbs 1) = _; rw [limbs_one (by decide) (by decide)]; rfl
  generalize Nat.gcd a b = g at *
  refine Ok.enter Tryz.func93 rfl _ Tryz.ntmps93 rfl ?_
  intro S w
  (refine St.seq ?_; refine St.regionK (fun K hK => ?_); refine Ops.alloc 0 rfl rfl (by with_reducible first | exact zvFrac) rfl rfl rfl ?_; refine Ops.nil (hK _ _ ?_); clear hK K; refine Fin.then ?_; refine St.seq ?_; refine St.seq ?_; refine St.regionK (fun K hK => ?_); refine Ops.move rfl rfl rfl ?_; refine Ops.lenF rfl rfl (by with_reducible first | exact sNat.und | exact sInts.und) (List.length_map ..) rfl ?_; refine Ops.ibin ieql rfl rfl rfl rfl ?_; refine Ops.nil (hK _ _ ?_); clear hK K; refine Fin.then ?_)
  refine St.condP rfl (fun h => ?_) (fun h => ?_)
  · have ha : a = 0 := limbs_nil (List.eq_nil_of_length_eq_zero (by omega))
    have e2 := e1 ha
    (refine St.seq ?_; refine St.regionK (fun K hK => ?_))
    refine Ops.lit1 rfl rfl (by with_reducible exact sNat) rfl rfl rfl ?_
    rw [← e11]
    refine Ops.build rfl (by with_reducible exact bFrac) rfl (.one rfl rfl rfl rfl .nil) rfl ?_
    (refine Ops.stWN 3 rfl rfl rfl rfl rfl (by with_reducible exact szFrac) rfl rfl ?_; refine Ops.nil (hK _ _ ?_); clear hK K; refine Fin.then ?_; refine St.ret ?_; refine Fin.thenRet ?_)
    refine Fin.ret [_] rfl (AllRes.weak (w_agg (ds := [boolC false, intsC [], natC 1]) (by exact ⟨w_same, w_nil, w_same, trivial⟩)) (AllRes.cellN (n := 3) rfl rfl (by with_reducible exact lFrac) rfl AllRes.nil)) (by rw [e2, ← natC_zero]; rfl) rfl
  · have ha : a ≠ 0 := fun ha => h (by rw [ha, limbs_zero]; rfl)
    have e2 := e0 ha
    (refine St.skip ?_; refine Fin.then ?_; refine St.seq ?_; refine St.regionK (fun K hK => ?_); refine Ops.move rfl rfl rfl ?_; refine Ops.move rfl rfl rfl ?_)
    refine Ops.call gorGcd h1 rfl rfl rfl rfl ?_
    (refine Ops.assign rfl rfl rfl ?_; refine Ops.nil (hK _ _ ?_); clear hK K; refine Fin.then ?_; refine St.seq ?_; refine St.regionK (fun K hK => ?_); refine Ops.move rfl rfl rfl ?_; refine Ops.move rfl rfl rfl ?_)
    refine Ops.call gorSplit h2 rfl rfl rfl rfl ?_
    (refine Ops.move rfl rfl rfl ?_; refine Ops.extract rfl rfl rfl rfl ?_; refine Ops.extract rfl rfl rfl rfl ?_; refine Ops.assign rfl rfl rfl ?_; refine Ops.assign rfl rfl rfl ?_; refine Ops.nil (hK _ _ ?_); clear hK K; refine Fin.then ?_; refine St.seq ?_; refine St.regionK (fun K hK => ?_); refine Ops.move rfl rfl rfl ?_; refine Ops.move rfl rfl rfl ?_)
    refine Ops.call gorSplit h3 rfl rfl rfl rfl ?_
    (refine Ops.move rfl rfl rfl ?_; refine Ops.extract rfl rfl rfl rfl ?_; refine Ops.extract rfl rfl rfl rfl ?_; refine Ops.assign rfl rfl rfl ?_; refine Ops.assign rfl rfl rfl ?_; refine Ops.nil (hK _ _ ?_); clear hK K; refine Fin.then ?_; refine St.seq ?_; refine St.regionK (fun K hK => ?_); refine Ops.move rfl rfl rfl ?_; refine Ops.move rfl rfl rfl ?_; refine Ops.move rfl rfl rfl ?_)
    refine Ops.build rfl (by with_reducible exact bFrac) rfl (.one rfl rfl rfl rfl (.one rfl rfl rfl rfl (.one rfl rfl rfl rfl .nil))) rfl ?_
    (refine Ops.stWN 3 rfl rfl rfl rfl rfl (by with_reducible exact szFrac) rfl rfl ?_; refine Ops.nil (hK _ _ ?_); clear hK K; refine Fin.then ?_; refine St.ret ?_)
    refine Fin.ret [_] rfl (AllRes.cellN (n := 3) rfl rfl (by with_reducible exact lFrac) rfl AllRes.nil) (by rw [e2]; rfl) rfl
theorem gorreduced : InGo Tryz.prog 93 := InGo.of Tryz.func93 (by kernel_rfl) (by kernel_rfl)
end Go.Proofs.YtdhmbgogmoaofaaGreat
namespace Go.Proofs.YtdhmbgogmoaofaaGreat
open Go.Own Go.Limbs
attribute [local irreducible] St Ops Go.Own.Fin Ok
theorem zBool : (Tryz.prog.info? 4).map (·.size) = some 1 := by kernel_rfl
set_option maxHeartbeats 2000000 in
theorem rFrom_ok (n d : Int) (h1 : -9223372036854775808 ≤ n) (h2 : n ≤ 9223372036854775807) (h3 : -9223372036854775808 ≤ d) (h4 : d ≤ 9223372036854775807) (h0 : d ≠ 0) : Ok Tryz.prog 57 [intC n, intC d] (.fr (tupT [ratC (Rat.divInt n d), intC 0])) := by
  have hl : (limbs n.natAbs).length ≤ 3 := limbs_length_le (k := 3) (by omega)
  have hl2 : (limbs d.natAbs).length ≤ 3 := limbs_length_le (k := 3) (by omega)
  rw [show ratC (Rat.divInt n d) = fracC (redF (decide (n < 0) != decide (d < 0)) n.natAbs d.natAbs) from by rw [from_redF n d h0]]
  refine Ok.enter Tryz.func57 rfl _ Tryz.ntmps57 rfl ?_
  intro S w
  (refine St.seq ?_; refine St.regionK (fun K hK => ?_); refine Ops.alloc 0 rfl rfl (by with_reducible first | exact zvFrac) rfl rfl rfl ?_; refine Ops.assign rfl rfl rfl ?_; refine Ops.nil (hK _ _ ?_); clear hK K; refine Fin.then ?_; refine St.seq ?_; refine St.seq ?_; refine St.regionK (fun K hK => ?_); refine Ops.move rfl rfl rfl ?_; refine Ops.ibin ieql rfl rfl rfl rfl ?_; refine Ops.nil (hK _ _ ?_); clear hK K; refine Fin.then ?_)
  refine St.condP rfl (fun h => absurd h h0) (fun h => ?_)
  (refine St.skip ?_; refine Fin.then ?_; refine St.seq ?_; refine St.regionK (fun K hK => ?_); refine Ops.move rfl rfl rfl ?_; refine Ops.ibin ilss rfl rfl rfl rfl ?_; refine Ops.move rfl rfl rfl ?_; refine Ops.ibin ilss rfl rfl rfl rfl ?_)
  refine Ops.bne rfl rfl rfl (by with_reducible exact uBool) rfl ?_
  rw [dne]
  (refine Ops.move rfl rfl rfl ?_)
  refine Ops.call gormagnitude (rmagnitude_ok n h1 h2) rfl rfl rfl rfl ?_
  (refine Ops.move rfl rfl rfl ?_)
  refine Ops.call gormagnitude (rmagnitude_ok d h3 h4) rfl rfl rfl rfl ?_
  refine Ops.call gorreduced (rreduced_ok _ n.natAbs d.natAbs (by omega) (by omega) (by omega)) rfl rfl rfl rfl ?_
  (refine Ops.stWN 3 rfl rfl rfl rfl rfl (by with_reducible exact szFrac) rfl rfl ?_; refine Ops.assign rfl rfl rfl ?_; refine Ops.nil (hK _ _ ?_); clear hK K; refine Fin.then ?_; refine St.ret ?_)
  refine Fin.ret [_, _] rfl (AllRes.cellN (n := 3) rfl rfl (by with_reducible exact lFrac) rfl (AllRes.tmp rfl AllRes.nil)) rfl rfl
theorem gorFrom : InGo Tryz.prog 57 := InGo.of Tryz.func57 (by kernel_rfl) (by kernel_rfl)
def oppF (f : Fr) : Fr := ⟨!f.neg && decide (f.num ≠ 0), f.num, f.den⟩
theorem oppF_q (q : Rat) : oppF (ofQ q) = ofQ (-q) := by
  unfold oppF ofQ
  simp only [Rat.neg_num, Rat.neg_den, Int.natAbs_neg]
  congr 1
  by_cases h : q.num < 0
  · rw [decide_eq_true h, decide_eq_false (show ¬ (-q.num < 0) by omega)]; rfl
  · rw [decide_eq_false h, Bool.not_false, Bool.true_and, decide_eq_decide]; omega
set_option maxHeartbeats 2000000 in
theorem rOpposite_ok (f : Fr) : Ok Tryz.prog 137 [fracC f] (fracC (oppF f)) := by
  refine Ok.enter Tryz.func137 rfl _ Tryz.ntmps137 rfl ?_
  intro S w
  (refine St.seq ?_; refine St.regionK (fun K hK => ?_); refine Ops.boxN 0 rfl rfl rfl rfl rfl rfl rfl ?_; refine Ops.alloc 1 rfl rfl (by with_reducible first | exact zvFrac) rfl rfl rfl ?_; refine Ops.nil (hK _ _ ?_); clear hK K; refine Fin.then ?_; refine St.seq ?_; refine St.regionK (fun K hK => ?_); refine Ops.fldO rfl rfl rfl (by with_reducible first | exact fF0 | exact fF1 | exact fF2 | exact fR0 | exact fR1) rfl ?_; refine Ops.ld1A rfl rfl rfl rfl rfl (by with_reducible first | exact lInt | exact lNat | exact lBool | exact lInts) rfl ?_; refine Ops.inot rfl rfl rfl ?_; refine Ops.move rfl rfl rfl ?_)
  refine Ops.split 6 rfl (fun h => ?_) (fun h => ?_)
  · (refine Ops.fldO rfl rfl rfl (by with_reducible first | exact fF0 | exact fF1 | exact fF2 | exact fR0 | exact fR1) rfl ?_; refine Ops.ld1A rfl rfl rfl rfl rfl (by with_reducible first | exact lInt | exact lNat | exact lBool | exact lInts) rfl ?_; refine Ops.lenF rfl rfl (by with_reducible first | exact sNat.und | exact sInts.und) (List.length_map ..) rfl ?_; refine Ops.ibin igtr rfl rfl rfl rfl ?_; refine Ops.pickT rfl rfl rfl rfl ?_; refine Ops.fldO rfl rfl rfl (by with_reducible first | exact fF0 | exact fF1 | exact fF2 | exact fR0 | exact fR1) rfl ?_)
    refine Ops.st1A rfl rfl rfl rfl rfl (by with_reducible exact zBool) (Nat.zero_lt_succ _) ?_
    (refine Ops.nil (hK _ _ ?_); clear hK K; refine Fin.then ?_; refine St.seq ?_; refine St.regionK (fun K hK => ?_); refine Ops.ldNO (n := 3) rfl rfl rfl rfl rfl (by with_reducible exact lFrac) rfl ?_; refine Ops.stWN 3 rfl rfl rfl rfl rfl (by with_reducible exact szFrac) rfl rfl ?_; refine Ops.nil (hK _ _ ?_); clear hK K; refine Fin.then ?_; refine St.ret ?_)
    refine Fin.ret [_] rfl (AllRes.cellN (n := 3) rfl rfl (by with_reducible exact lFrac) rfl AllRes.nil) (by unfold oppF; rw [h, ← limbs_len_posI]; rfl) rfl
  · (refine Ops.skip rfl rfl rfl ?_; refine Ops.skip rfl rfl rfl ?_; refine Ops.skip rfl rfl rfl ?_; refine Ops.skip rfl rfl rfl ?_; refine Ops.pickF rfl rfl rfl rfl ?_; refine Ops.fldO rfl rfl rfl (by with_reducible first | exact fF0 | exact fF1 | exact fF2 | exact fR0 | exact fR1) rfl ?_)
    refine Ops.st1A rfl rfl rfl rfl rfl (by with_reducible exact zBool) (Nat.zero_lt_succ _) ?_
    (refine Ops.nil (hK _ _ ?_); clear hK K; refine Fin.then ?_; refine St.seq ?_; refine St.regionK (fun K hK => ?_); refine Ops.ldNO (n := 3) rfl rfl rfl rfl rfl (by with_reducible exact lFrac) rfl ?_; refine Ops.stWN 3 rfl rfl rfl rfl rfl (by with_reducible exact szFrac) rfl rfl ?_; refine Ops.nil (hK _ _ ?_); clear hK K; refine Fin.then ?_; refine St.ret ?_)
    refine Fin.ret [_] rfl (AllRes.cellN (n := 3) rfl rfl (by with_reducible exact lFrac) rfl AllRes.nil) (by unfold oppF; rw [h]; rfl) rfl
theorem gorOpposite : InGo Tryz.prog 137 := InGo.of Tryz.func137 (by kernel_rfl) (by kernel_rfl)
set_option maxHeartbeats 4000000 in
theorem rsum_ok (f h : Fr) (l1 : (limbs f.num).length ≤ 1000) (l2 : (limbs f.den).length ≤ 1000) (l3 : (limbs h.num).length ≤ 1000) (l4 : (limbs h.den).length ≤ 1000) (d1 : 0 < f.den) (d2 : 0 < h.den) :
    Ok Tryz.prog 95 [fracC f, fracC h] (fracC (redF (sumS f.neg (f.num * h.den) h.neg (h.num * f.den)) (sumN f.neg (f.num * h.den) h.neg (h.num * f.den)) (f.den * h.den))) := by
  have m1 := mul_len l1 l4
  have m2 := mul_len l3 l2
  have m3 := mul_len l2 l4
  have hp := Nat.mul_pos d1 d2
  have m4 := sumN_len (n1 := f.neg) (n2 := h.neg) m1 m2
  have hr := rreduced_ok (sumS f.neg (f.num * h.den) h.neg (h.num * f.den)) (sumN f.neg (f.num * h.den) h.neg (h.num * f.den)) (f.den * h.den) hp (by omega) (by omega)
  refine Ok.enter Tryz.func95 rfl _ Tryz.ntmps95 rfl ?_
  intro S w
  generalize redF (sumS f.neg (f.num * h.den) h.neg (h.num * f.den)) (sumN f.neg (f.num * h.den) h.neg (h.num * f.den)) (f.den * h.den) = rr at *
  (refine St.seq ?_; refine St.regionK (fun K hK => ?_); refine Ops.boxN 0 rfl rfl rfl rfl rfl rfl rfl ?_; refine Ops.boxN 1 rfl rfl rfl rfl rfl rfl rfl ?_; refine Ops.alloc 2 rfl rfl (by with_reducible first | exact zvFrac) rfl rfl rfl ?_; refine Ops.nil (hK _ _ ?_); clear hK K; refine Fin.then ?_; refine St.seq ?_)
  refine St.drawK (by with_reducible exact mixed) 18 (.p 0 (.p 2 (.p 5 (.p 7 (.p 10 (.p 12 (.f 1 (.f 3 (.f 6 (.f 8 (.f 11 (.f 13 (.m 4 (.m 9 (.m 14 (.p 15 (.p 16 (.p 17 .done)))))))))))))))))) (by kernel_rfl) (fun K hK => ?_)
  (refine Ops.fldO rfl rfl rfl (by with_reducible first | exact fF0 | exact fF1 | exact fF2 | exact fR0 | exact fR1) rfl ?_; refine Ops.fldO rfl rfl rfl (by with_reducible first | exact fF0 | exact fF1 | exact fF2 | exact fR0 | exact fR1) rfl ?_; refine Ops.fldO rfl rfl rfl (by with_reducible first | exact fF0 | exact fF1 | exact fF2 | exact fR0 | exact fR1) rfl ?_; refine Ops.fldO rfl rfl rfl (by with_reducible first | exact fF0 | exact fF1 | exact fF2 | exact fR0 | exact fR1) rfl ?_; refine Ops.fldO rfl rfl rfl (by with_reducible first | exact fF0 | exact fF1 | exact fF2 | exact fR0 | exact fR1) rfl ?_; refine Ops.fldO rfl rfl rfl (by with_reducible first | exact fF0 | exact fF1 | exact fF2 | exact fR0 | exact fR1) rfl ?_; refine Ops.ld1A rfl rfl rfl rfl rfl (by with_reducible first | exact lInt | exact lNat | exact lBool | exact lInts) rfl ?_; refine Ops.ld1A rfl rfl rfl rfl rfl (by with_reducible first | exact lInt | exact lNat | exact lBool | exact lInts) rfl ?_; refine Ops.ld1A rfl rfl rfl rfl rfl (by with_reducible first | exact lInt | exact lNat | exact lBool | exact lInts) rfl ?_; refine Ops.ld1A rfl rfl rfl rfl rfl (by with_reducible first | exact lInt | exact lNat | exact lBool | exact lInts) rfl ?_; refine Ops.ld1A rfl rfl rfl rfl rfl (by with_reducible first | exact lInt | exact lNat | exact lBool | exact lInts) rfl ?_; refine Ops.ld1A rfl rfl rfl rfl rfl (by with_reducible first | exact lInt | exact lNat | exact lBool | exact lInts) rfl ?_)
  refine Ops.call gorTimes (rTimes_ok f.num h.den (by omega)) rfl rfl rfl rfl ?_
  skip
  refine Ops.call gorTimes (rTimes_ok h.num f.den (by omega)) rfl rfl rfl rfl ?_
  skip
  refine Ops.call gorTimes (rTimes_ok f.den h.den (by omega)) rfl rfl rfl rfl ?_
  (refine Ops.assign rfl rfl rfl ?_; refine Ops.assign rfl rfl rfl ?_; refine Ops.assign rfl rfl rfl ?_; refine Ops.nil (hK _ _ ?_); clear hK K; refine Fin.then ?_; refine St.seq ?_; refine St.seq ?_; refine St.regionK (fun K hK => ?_); refine Ops.fldO rfl rfl rfl (by with_reducible first | exact fF0 | exact fF1 | exact fF2 | exact fR0 | exact fR1) rfl ?_; refine Ops.ld1A rfl rfl rfl rfl rfl (by with_reducible first | exact lInt | exact lNat | exact lBool | exact lInts) rfl ?_; refine Ops.fldO rfl rfl rfl (by with_reducible first | exact fF0 | exact fF1 | exact fF2 | exact fR0 | exact fR1) rfl ?_; refine Ops.ld1A rfl rfl rfl rfl rfl (by with_reducible first | exact lInt | exact lNat | exact lBool | exact lInts) rfl ?_)
  refine Ops.beq rfl rfl rfl (by with_reducible exact uBool) rfl ?_
  (refine Ops.nil (hK _ _ ?_); clear hK K; refine Fin.then ?_)
  refine St.condB rfl (fun g => ?_) (fun g => ?_)
  · have g' : f.neg = h.neg := by simpa using g
    have e1 : sumN f.neg (f.num * h.den) h.neg (h.num * f.den) = f.num * h.den + h.num * f.den := by unfold sumN; rw [if_pos g']
    have e2 : sumS f.neg (f.num * h.den) h.neg (h.num * f.den) = f.neg := by unfold sumS; rw [if_pos g']
    rw [e1, e2] at hr
    (refine St.seq ?_)
    refine St.drawK (by with_reducible exact mixed) 7 (.p 0 (.p 2 (.p 3 (.p 5 (.f 1 (.m 4 (.m 6 (.a 7 .done)))))))) (by kernel_rfl) (fun K hK => ?_)
    (refine Ops.fldO rfl rfl rfl (by with_reducible first | exact fF0 | exact fF1 | exact fF2 | exact fR0 | exact fR1) rfl ?_; refine Ops.move rfl rfl rfl ?_; refine Ops.move rfl rfl rfl ?_; refine Ops.move rfl rfl rfl ?_; refine Ops.ld1A rfl rfl rfl rfl rfl (by with_reducible first | exact lInt | exact lNat | exact lBool | exact lInts) rfl ?_)
    refine Ops.call gorPlus (rPlus_ok (f.num * h.den) (h.num * f.den) (by omega) (by omega)) rfl rfl rfl rfl ?_
    refine Ops.call gorreduced hr rfl rfl rfl rfl ?_
    (refine Ops.stWN 3 rfl rfl rfl rfl rfl (by with_reducible exact szFrac) rfl rfl ?_; refine Ops.nil (hK _ _ ?_); clear hK K; refine Fin.then ?_; refine St.ret ?_; refine Fin.thenRet ?_)
    refine Fin.ret [_] rfl (AllRes.cellN (n := 3) rfl rfl (by with_reducible exact lFrac) rfl AllRes.nil) rfl rfl
  · have g' : ¬ f.neg = h.neg := by simpa using g
    (refine St.skip ?_; refine Fin.then ?_; refine St.seq ?_; refine St.seq ?_; refine St.regionK (fun K hK => ?_); refine Ops.move rfl rfl rfl ?_; refine Ops.move rfl rfl rfl ?_)
    refine Ops.call gorCompare (rCompare_ok (f.num * h.den) (h.num * f.den) (by omega) (by omega)) rfl rfl rfl rfl ?_
    (refine Ops.ibin igeq rfl rfl rfl rfl ?_; refine Ops.nil (hK _ _ ?_); clear hK K; refine Fin.then ?_)
    refine St.condP rfl (fun g2 => ?_) (fun g2 => ?_)
    · have hle : h.num * f.den ≤ f.num * h.den := by have := cmpI_neg (a := ((f.num * h.den : Nat) : Int)) (b := ((h.num * f.den : Nat) : Int)); omega
      have e1 : sumN f.neg (f.num * h.den) h.neg (h.num * f.den) = f.num * h.den - h.num * f.den := by unfold sumN; rw [if_neg g', if_neg (by omega)]
      have e2 : sumS f.neg (f.num * h.den) h.neg (h.num * f.den) = f.neg := by unfold sumS; rw [if_neg g', if_neg (by omega)]
      rw [e1, e2] at hr
      (refine St.seq ?_)
      refine St.drawK (by with_reducible exact mixed) 7 (.p 0 (.p 2 (.p 3 (.p 5 (.f 1 (.m 4 (.m 6 (.a 7 .done)))))))) (by kernel_rfl) (fun K hK => ?_)
      (refine Ops.fldO rfl rfl rfl (by with_reducible first | exact fF0 | exact fF1 | exact fF2 | exact fR0 | exact fR1) rfl ?_; refine Ops.move rfl rfl rfl ?_; refine Ops.move rfl rfl rfl ?_; refine Ops.move rfl rfl rfl ?_; refine Ops.ld1A rfl rfl rfl rfl rfl (by with_reducible first | exact lInt | exact lNat | exact lBool | exact lInts) rfl ?_)
      refine Ops.call gorLess (rLess_ok (f.num * h.den) (h.num * f.den) hle (by omega)) rfl rfl rfl rfl ?_
      refine Ops.call gorreduced hr rfl rfl rfl rfl ?_
      (refine Ops.stWN 3 rfl rfl rfl rfl rfl (by with_reducible exact szFrac) rfl rfl ?_; refine Ops.nil (hK _ _ ?_); clear hK K; refine Fin.then ?_; refine St.ret ?_; refine Fin.thenRet ?_)
      refine Fin.ret [_] rfl (AllRes.cellN (n := 3) rfl rfl (by with_reducible exact lFrac) rfl AllRes.nil) rfl rfl
    · have hlt : f.num * h.den < h.num * f.den := by have := cmpI_neg (a := ((f.num * h.den : Nat) : Int)) (b := ((h.num * f.den : Nat) : Int)); omega
      have e1 : sumN f.neg (f.num * h.den) h.neg (h.num * f.den) = h.num * f.den - f.num * h.den := by unfold sumN; rw [if_neg g', if_pos hlt]
      have e2 : sumS f.neg (f.num * h.den) h.neg (h.num * f.den) = h.neg := by unfold sumS; rw [if_neg g', if_pos hlt]
      rw [e1, e2] at hr
      (refine St.skip ?_; refine Fin.then ?_; refine St.seq ?_)
      refine St.drawK (by with_reducible exact mixed) 7 (.p 0 (.p 2 (.p 3 (.p 5 (.f 1 (.m 4 (.m 6 (.a 7 .done)))))))) (by kernel_rfl) (fun K hK => ?_)
      (refine Ops.fldO rfl rfl rfl (by with_reducible first | exact fF0 | exact fF1 | exact fF2 | exact fR0 | exact fR1) rfl ?_; refine Ops.move rfl rfl rfl ?_; refine Ops.move rfl rfl rfl ?_; refine Ops.move rfl rfl rfl ?_; refine Ops.ld1A rfl rfl rfl rfl rfl (by with_reducible first | exact lInt | exact lNat | exact lBool | exact lInts) rfl ?_)
      refine Ops.call gorLess (rLess_ok (h.num * f.den) (f.num * h.den) (by omega) (by omega)) rfl rfl rfl rfl ?_
      refine Ops.call gorreduced hr rfl rfl rfl rfl ?_
      (refine Ops.stWN 3 rfl rfl rfl rfl rfl (by with_reducible exact szFrac) rfl rfl ?_; refine Ops.nil (hK _ _ ?_); clear hK K; refine Fin.then ?_; refine St.ret ?_)
      refine Fin.ret [_] rfl (AllRes.cellN (n := 3) rfl rfl (by with_reducible exact lFrac) rfl AllRes.nil) rfl rfl
theorem gorsum : InGo Tryz.prog 95 := InGo.of Tryz.func95 (by kernel_rfl) (by kernel_rfl)
end Go.Proofs.YtdhmbgogmoaofaaGreat
namespace Go.Proofs.YtdhmbgogmoaofaaGreat
open Go.Own Go.Limbs
attribute [local irreducible] St Ops Go.Own.Fin Ok OkM
end Go.Proofs.YtdhmbgogmoaofaaGreat
namespace Go.Proofs.YtdhmbgogmoaofaaGreat
open Go.Own Go.Limbs
attribute [local irreducible] St Ops Go.Own.Fin Ok OkM
end Go.Proofs.YtdhmbgogmoaofaaGreat
namespace Go.Proofs.YtdhmbgogmoaofaaGreat
open Go.Own Go.Limbs
attribute [local irreducible] St Ops Go.Own.Fin Ok OkM
theorem redF_z (S : Bool) (N D : Nat) (hD : 0 < D) : (redF S N D).neg = decide (sg S N < 0) ∧ ((redF S N D).num = 0 ↔ sg S N = 0) := by
  have hz : N / Nat.gcd N D = 0 ↔ N = 0 := by
    have hg : 0 < Nat.gcd N D := Nat.gcd_pos_of_pos_right _ hD
    constructor
    · intro h
      have h1 := Nat.div_mul_cancel (Nat.gcd_dvd_left N D)
      rw [h, Nat.zero_mul] at h1; exact h1.symm
    · intro h; rw [h]; exact Nat.zero_div _
  have e1 : sg S N = 0 ↔ N = 0 := by unfold sg; cases S <;> simp
  refine ⟨?_, ?_⟩
  · show (S && decide (N / Nat.gcd N D ≠ 0)) = _
    by_cases h : N = 0
    · rw [decide_eq_false (fun h2 => h2 (hz.2 h)), Bool.and_false, decide_eq_false (by have := e1.2 h; omega)]
    · have h2 : N / Nat.gcd N D ≠ 0 := fun h2 => h (hz.1 h2)
      rw [decide_eq_true h2, Bool.and_true]
      unfold sg
      cases S with
      | true => rw [if_pos rfl, decide_eq_true (by omega)]
      | false => rw [if_neg (by decide), decide_eq_false (by omega)]
  · show N / Nat.gcd N D = 0 ↔ _
    rw [hz, e1]
theorem gorFOrderQ : InGo Tryz.prog 78 := InGo.of Tryz.func78 (by kernel_rfl) (by kernel_rfl)
set_option maxHeartbeats 8000000 in
theorem rFOrder_q (p q : Rat) (l1 : (limbs (ofQ p).num).length ≤ 1000) (l2 : (limbs (ofQ p).den).length ≤ 1000) (l3 : (limbs (ofQ q).num).length ≤ 1000) (l4 : (limbs (ofQ q).den).length ≤ 1000) : Ok Tryz.prog 78 [ratC p, ratC q] (intC (cmpQ p q)) := by
  have h1 := rOpposite_ok (ofQ q)
  have h2 := rsum_ok (ofQ p) (oppF (ofQ q)) l1 l2 l3 l4 (ofQ_den p) (ofQ_den q)
  have hz : sg (sumS (ofQ p).neg ((ofQ p).num * (oppF (ofQ q)).den) (oppF (ofQ q)).neg ((oppF (ofQ q)).num * (ofQ p).den)) (sumN (ofQ p).neg ((ofQ p).num * (oppF (ofQ q)).den) (oppF (ofQ q)).neg ((oppF (ofQ q)).num * (ofQ p).den)) = p.num * q.den - q.num * p.den := by
    rw [sum_sg, sg_mul, sg_mul, ofQ_sg]
    have e : sg (oppF (ofQ q)).neg (oppF (ofQ q)).num = -q.num := by
      rw [oppF_q, ofQ_sg]; exact Rat.neg_num q
    rw [e, Int.neg_mul]; rfl
  have hr := redF_z (sumS (ofQ p).neg ((ofQ p).num * (oppF (ofQ q)).den) (oppF (ofQ q)).neg ((oppF (ofQ q)).num * (ofQ p).den)) (sumN (ofQ p).neg ((ofQ p).num * (oppF (ofQ q)).den) (oppF (ofQ q)).neg ((oppF (ofQ q)).num * (ofQ p).den)) ((ofQ p).den * (oppF (ofQ q)).den) (Nat.mul_pos (ofQ_den p) (ofQ_den q))
  rw [hz] at hr
  have hc : cmpQ p q = (p.num * q.den - q.num * p.den).sign := rfl
  generalize redF (sumS (ofQ p).neg ((ofQ p).num * (oppF (ofQ q)).den) (oppF (ofQ q)).neg ((oppF (ofQ q)).num * (ofQ p).den)) (sumN (ofQ p).neg ((ofQ p).num * (oppF (ofQ q)).den) (oppF (ofQ q)).neg ((oppF (ofQ q)).num * (ofQ p).den)) ((ofQ p).den * (oppF (ofQ q)).den) = d at *
  generalize p.num * q.den - q.num * p.den = z at *
  generalize oppF (ofQ q) = oq at *
  have hlen := limbs_len_pos (n := d.num)
  have res1 : d.neg = true → cmpQ p q = -1 := fun h => by
    rw [hr.1] at h
    rw [hc]; exact Int.sign_eq_neg_one_of_neg (of_decide_eq_true h)
  have res2 : d.neg = false → cmpQ p q = min ((limbs d.num).length : Int) 1 := fun h => by
    rw [hr.1] at h
    have h3 := of_decide_eq_false h
    rw [hc]
    by_cases h4 : z = 0
    · rw [h4]
      have := hr.2.2 h4
      have h5 : (limbs d.num).length = 0 := by omega
      rw [h5]; rfl
    · rw [Int.sign_eq_one_of_pos (by omega)]
      have : d.num ≠ 0 := fun h5 => h4 (hr.2.1 h5)
      omega
  clear hr hz hc
  refine Ok.enter Tryz.func78 rfl _ Tryz.ntmps78 rfl ?_
  intro S w
  (refine St.seq ?_; refine St.regionK (fun K hK => ?_); refine Ops.boxN 0 rfl rfl rfl rfl rfl rfl rfl ?_; refine Ops.boxN 1 rfl rfl rfl rfl rfl rfl rfl ?_; refine Ops.assign rfl rfl rfl ?_; refine Ops.nil (hK _ _ ?_); clear hK K; refine Fin.then ?_; refine St.seq ?_)
  refine St.drawK (by with_reducible exact mixed) 5 (.f 0 (.f 1 (.fork 2 (.fork 3 (.m 4 (.a 5 .done)) 4 (.m 3 (.a 5 .done))) 4 (.m 2 (.m 3 (.a 5 .done)))))) (by kernel_rfl) (fun K hK => ?_)
  refine (fun (cont : Go.Own.Fin _ [(5, .own 2)] [(2, .box 38 (frCs d)), (1, .box 38 (frCs (ofQ q))), (0, .box 38 (frCs (ofQ p)))] K) => ?_) (hK _ _ ?_)
  rotate_left
  · clear hK K
    (refine Fin.then ?_; refine St.seq ?_; refine St.seq ?_; refine St.regionK (fun K hK => ?_); refine Ops.fldO rfl rfl rfl (by with_reducible first | exact fF0 | exact fF1 | exact fF2 | exact fR0 | exact fR1) rfl ?_; refine Ops.ld1A rfl rfl rfl rfl rfl (by with_reducible first | exact lInt | exact lNat | exact lBool | exact lInts) rfl ?_; refine Ops.nil (hK _ _ ?_); clear hK K; refine Fin.then ?_)
    refine St.condB rfl (fun g => ?_) (fun g => ?_)
    · (refine St.seq ?_; refine St.regionK (fun K hK => ?_); refine Ops.assign rfl rfl rfl ?_; refine Ops.nil (hK _ _ ?_); clear hK K; refine Fin.then ?_; refine St.ret ?_; refine Fin.thenRet ?_)
      refine Fin.ret [_] rfl (AllRes.tmp rfl AllRes.nil) (by rw [res1 g]; rfl) rfl
    · (refine St.skip ?_; refine Fin.then ?_; refine St.seq ?_; refine St.regionK (fun K hK => ?_); refine Ops.fldO rfl rfl rfl (by with_reducible first | exact fF0 | exact fF1 | exact fF2 | exact fR0 | exact fR1) rfl ?_; refine Ops.ld1A rfl rfl rfl rfl rfl (by with_reducible first | exact lInt | exact lNat | exact lBool | exact lInts) rfl ?_; refine Ops.lenF rfl rfl (by with_reducible first | exact sNat.und | exact sInts.und) (List.length_map ..) rfl ?_; refine Ops.min2 rfl rfl rfl rfl ?_; refine Ops.assign rfl rfl rfl ?_; refine Ops.nil (hK _ _ ?_); clear hK K; refine Fin.then ?_; refine St.ret ?_)
      refine Fin.ret [_] rfl (AllRes.tmp rfl AllRes.nil) (by rw [res2 g]; rfl) rfl
  clear hK
  (refine Ops.ldNO (n := 3) rfl rfl rfl rfl rfl (by with_reducible exact lFrac) rfl ?_; refine Ops.ldNO (n := 3) rfl rfl rfl rfl rfl (by with_reducible exact lFrac) rfl ?_)
  refine Ops.fork ?_ ?_
  · refine Ops.call gorOpposite h1 rfl rfl rfl rfl ?_
    refine Ops.fork ?_ ?_
    · refine Ops.call gorsum h2 rfl rfl rfl rfl ?_
      (refine Ops.alloc 2 rfl rfl (by with_reducible first | exact zvFrac) rfl rfl rfl ?_; refine Ops.stWN 3 rfl rfl rfl rfl rfl (by with_reducible exact szFrac) rfl rfl ?_)
      exact Ops.nil (Fin.kp cont ⟨rfl, trivial⟩)
    · refine Ops.alloc 2 rfl rfl (by with_reducible exact zvFrac) rfl rfl rfl ?_
      refine Ops.call gorsum h2 rfl rfl rfl rfl ?_
      (refine Ops.stWN 3 rfl rfl rfl rfl rfl (by with_reducible exact szFrac) rfl rfl ?_)
      exact Ops.nil (Fin.kp cont ⟨rfl, trivial⟩)
  · refine Ops.alloc 2 rfl rfl (by with_reducible exact zvFrac) rfl rfl rfl ?_
    refine Ops.call gorOpposite h1 rfl rfl rfl rfl ?_
    refine Ops.call gorsum h2 rfl rfl rfl rfl ?_
    (refine Ops.stWN 3 rfl rfl rfl rfl rfl (by with_reducible exact szFrac) rfl rfl ?_)
    exact Ops.nil (Fin.kp cont ⟨rfl, trivial⟩)
theorem gorFCompareQ : InGo Tryz.prog 25 := InGo.of Tryz.func25 (by kernel_rfl) (by kernel_rfl)
theorem rFCompare_q (p q : Rat) (l1 : (limbs (ofQ p).num).length ≤ 1000) (l2 : (limbs (ofQ p).den).length ≤ 1000) (l3 : (limbs (ofQ q).num).length ≤ 1000) (l4 : (limbs (ofQ q).den).length ≤ 1000) : Ok Tryz.prog 25 [ratC p, ratC q] (.fr (tupT [intC (cmpQ p q), intC 0])) := by
  refine Ok.enter Tryz.func25 rfl _ Tryz.ntmps25 rfl ?_
  intro S w
  (refine St.seq ?_; refine St.regionK (fun K hK => ?_); refine Ops.boxN 0 rfl rfl rfl rfl rfl rfl rfl ?_; refine Ops.boxN 1 rfl rfl rfl rfl rfl rfl rfl ?_; refine Ops.assign rfl rfl rfl ?_; refine Ops.assign rfl rfl rfl ?_; refine Ops.nil (hK _ _ ?_); clear hK K; refine Fin.then ?_; refine St.seq ?_; refine St.regionK (fun K hK => ?_); refine Ops.ldNO (n := 3) rfl rfl rfl rfl rfl (by with_reducible exact lFrac) rfl ?_; refine Ops.ldNO (n := 3) rfl rfl rfl rfl rfl (by with_reducible exact lFrac) rfl ?_)
  refine Ops.call gorFOrderQ (rFOrder_q p q l1 l2 l3 l4) rfl rfl rfl rfl ?_
  (refine Ops.assign rfl rfl rfl ?_; refine Ops.assign rfl rfl rfl ?_; refine Ops.nil (hK _ _ ?_); clear hK K; refine Fin.then ?_; refine St.ret ?_)
  refine Fin.ret [_, _] rfl (AllRes.tmp rfl (AllRes.tmp rfl AllRes.nil)) rfl rfl
def sgnF (f : Fr) : Int := if f.num = 0 then 0 else if f.neg then -1 else 1
end Go.Proofs.YtdhmbgogmoaofaaGreat
namespace Go.Proofs.YtdhmbgogmoaofaaGreat
open Go.Own Go.Limbs Go.Det
theorem sm_app (f : Nat → Int) (n : Nat) : ∀ m, sm f (n + m) = sm f n + sm (fun k => f (n + k)) m
  | 0 => by simp [sm]
  | m + 1 => by
    rw [show n + (m + 1) = (n + m) + 1 by omega]
    simp only [sm]
    rw [sm_app f n m]; omega
theorem sm_neg (f : Nat → Int) (m : Nat) : sm (fun k => -(f k)) m = -(sm f m) := by
  have := sm_mul (-1) f m
  rw [← sm_congr (f := fun k => -(f k)) (g := fun k => -1 * f k) fun k _ => by omega] at this
  omega
def ca (rs : List Rw) (i j : Nat) : Int := (rs.getD i rw0).cs.getD j 0
def cb (rs : List Rw) (i : Nat) : Int := (rs.getD i rw0).b
section
variable {n : Nat} {rs : List Rw} {c : List Int} {W : Nat} {T : Tv} {bs : List Nat}
def vx (n : Nat) (rs : List Rw) (c : List Int) (bs : List Nat) (x : Vec) (v : Nat) : Int := sm (fun k => if bs.getD k 0 = v then tt (colA n rs c) bs k x else 0) rs.length
theorem vx_row (h : Ph n rs c W T bs) {k : Nat} (hk : k < rs.length) (x : Vec) : vx n rs c bs x (bs.getD k 0) = tt (colA n rs c) bs k x := by
  unfold vx
  rw [sm_one hk fun j hj hjk => ?_, if_pos rfl]
  exact if_neg fun e => h.bas.ne (dup_zero (i := k) (k := j) (by rw [h.bas.len]; omega) (by rw [h.bas.len]; omega) hjk e.symm)
theorem vx_out {v : Nat} (hv : ∀ k, k < rs.length → bs.getD k 0 ≠ v) (x : Vec) : vx n rs c bs x v = 0 := sm_zero fun k hk => if_neg (hv k hk)
theorem vx_nn (x : Vec) (hx : ∀ k, k < rs.length → 0 ≤ tt (colA n rs c) bs k x) (v : Nat) : 0 ≤ vx n rs c bs x v := sm_nonneg fun k hk => by
  split
  · exact hx k hk
  · exact Int.le_refl _
theorem Ph.rowsum (h : Ph n rs c (n + rs.length) T bs) {x : Vec} (hx : Vok (rs.length + 2) x) {i : Nat} (hi : i ≤ rs.length) :
    Go.Det.den (colA n rs c) bs * x i = sm (fun v => colA n rs c v i * vx n rs c bs x v) (n + rs.length) + (if i = rs.length then tt (colA n rs c) bs rs.length x else 0) := by
  have e1 : sm (fun v => colA n rs c v i * vx n rs c bs x v) (n + rs.length) = sm (fun k => tt (colA n rs c) bs k x * colA n rs c (bs.getD k 0) i) rs.length := by
    have e2 : ∀ v, colA n rs c v i * vx n rs c bs x v = sm (fun k => colA n rs c v i * (if bs.getD k 0 = v then tt (colA n rs c) bs k x else 0)) rs.length := fun v => by unfold vx; rw [sm_mul]
    rw [sm_congr (g := fun v => sm (fun k => colA n rs c v i * (if bs.getD k 0 = v then tt (colA n rs c) bs k x else 0)) rs.length) fun v _ => e2 v]
    rw [sm_swap (fun k v => colA n rs c v i * (if bs.getD k 0 = v then tt (colA n rs c) bs k x else 0)) rs.length (n + rs.length)]
    refine sm_congr fun k hk => ?_
    have hb := h.good.cov.bas k hk
    rw [sm_one hb fun v _ hv => by rw [if_neg (Ne.symm hv), Int.mul_zero], if_pos rfl, Int.mul_comm]
  rw [h.comp hx, e1]
  simp only [sm]
  rw [h.z, h.w, colA_z, colA_w]
  have u2 : Go.Det.unit (rs.length + 1) i = 0 := if_neg (by omega)
  rw [u2, Int.mul_zero, Int.add_zero]
  by_cases hi2 : i = rs.length
  · rw [if_pos hi2, hi2, show Go.Det.unit rs.length rs.length = 1 from if_pos rfl, Int.mul_one]
  · rw [if_neg hi2, show Go.Det.unit rs.length i = 0 from if_neg hi2, Int.mul_zero]
theorem low_sum (i : Nat) (hi : i < rs.length) (y : Nat → Int) : sm (fun v => colA n rs c v i * y v) (n + rs.length) = sm (fun j => ca rs i j * y j) n + y (n + i) := by
  rw [sm_app]
  congr 1
  · exact sm_congr fun v hv => by rw [colA_low hv, if_pos hi]; rfl
  · rw [sm_one hi fun k hk hki => by rw [colA_slack hk, show Go.Det.unit k i = 0 from if_neg (Ne.symm hki), Int.zero_mul], colA_slack hi, show Go.Det.unit i i = 1 from if_pos rfl, Int.one_mul]
theorem goal_sum (y : Nat → Int) : sm (fun v => colA n rs c v rs.length * y v) (n + rs.length) = -(sm (fun j => c.getD j 0 * y j) n) := by
  rw [sm_app, sm_zero (f := fun k => colA n rs c (n + k) rs.length * y (n + k)) fun k hk => by rw [colA_slack hk, show Go.Det.unit k rs.length = 0 from if_neg (by omega), Int.zero_mul], Int.add_zero, ← sm_neg]
  exact sm_congr fun v hv => by rw [colA_low hv, if_neg (by omega), if_pos rfl]; grind
structure Feas (n : Nat) (rs : List Rw) (D : Int) (X : Nat → Int) : Prop where
  den : 0 < D
  nn : ∀ v, v < n → 0 ≤ X v
  row : ∀ i, i < rs.length → sm (fun j => ca rs i j * X j) n ≤ D * cb rs i
theorem Ph.point (h : Ph n rs c (n + rs.length) T bs) : Feas n rs (Go.Det.den (colA n rs c) bs) (vx n rs c bs (rhsQ rs)) ∧ sm (fun j => c.getD j 0 * vx n rs c bs (rhsQ rs) j) n = tt (colA n rs c) bs rs.length (rhsQ rs) := by
  have hnn := vx_nn (n := n) (rs := rs) (c := c) (bs := bs) (rhsQ rs) h.good.feas
  refine ⟨⟨den_pos h.bas.ne, fun v _ => hnn v, fun i hi => ?_⟩, ?_⟩
  · have h1 := h.rowsum (rhsQ_V (rs := rs)) (i := i) (by omega)
    rw [low_sum i hi, if_neg (by omega)] at h1
    have h2 := hnn (n + i)
    have h3 : rhsQ rs i = cb rs i := if_pos hi
    rw [h3] at h1
    omega
  · have h1 := h.rowsum (rhsQ_V (rs := rs)) (i := rs.length) (Nat.le_refl _)
    rw [goal_sum, if_pos rfl, show rhsQ rs rs.length = 0 from if_neg (by omega), Int.mul_zero] at h1
    omega
theorem Ph.func (h : Ph n rs c W T bs) {g : Nat} (hg : g < rs.length + 2) {x : Vec} (hx : Vok (rs.length + 2) x) : tt (colA n rs c) bs g x = sm (fun k => x k * tt (colA n rs c) bs g (Go.Det.unit k)) (rs.length + 2) := by
  have e : x = comb x Go.Det.unit (rs.length + 2) := by
    funext j
    unfold comb
    by_cases hj : j < rs.length + 2
    · rw [sm_one hj fun k _ hk => by simp [Go.Det.unit, Ne.symm hk]]; simp [Go.Det.unit]
    · rw [hx j (by omega), sm_zero fun k hk => by rw [show Go.Det.unit k j = 0 from if_neg (by omega), Int.mul_zero]]
  have e2 : dT (colA n rs c) bs g x = sm (fun k => x k * dT (colA n rs c) bs g (Go.Det.unit k)) (rs.length + 2) := by
    unfold dT
    conv => lhs; rw [e]
    exact dt_set_comb (by rw [cols_len, h.bas.len]; omega) _ _ _
  unfold tt
  rw [e2, ← sm_mul]
  exact sm_congr fun k _ => by grind
def yx (n : Nat) (rs : List Rw) (c : List Int) (bs : List Nat) (g i : Nat) : Int := tt (colA n rs c) bs g (colA n rs c (n + i))
theorem Ph.dual_sum (h : Ph n rs c W T bs) {g : Nat} (hg : g = rs.length ∨ g = rs.length + 1) {x : Vec} (hx : Vok (rs.length + 2) x) (hx1 : x (rs.length + 1) = 0) :
    tt (colA n rs c) bs g x = sm (fun i => x i * yx n rs c bs g i) rs.length + (if g = rs.length then x rs.length * Go.Det.den (colA n rs c) bs else 0) := by
  rw [h.func (by omega) hx]
  simp only [sm]
  rw [hx1, Int.zero_mul, Int.add_zero]
  congr 1
  · exact sm_congr fun k hk => by rw [← colA_slack (n := n) (c := c) hk]; rfl
  · rw [← colA_z (n := n) (c := c), ← h.z]
    rcases hg with rfl | rfl
    · rw [if_pos rfl, tt_own h.bas.len (by omega)]
    · rw [if_neg (by omega), tt_other h.bas.len (by omega) (by omega) (by omega), Int.mul_zero]
theorem colA_w0 {v : Nat} (hv : v < n + rs.length) : colA n rs c v (rs.length + 1) = 0 := by
  by_cases h1 : v < n
  · rw [colA_low h1, if_neg (by omega), if_neg (by omega)]
  · obtain ⟨i, rfl⟩ : ∃ i, v = n + i := ⟨v - n, by omega⟩
    rw [colA_slack (by omega)]; exact if_neg (by omega)
structure Dual (n : Nat) (rs : List Rw) (c : List Int) (D : Int) (Y : Nat → Int) : Prop where
  den : 0 < D
  nn : ∀ i, i < rs.length → 0 ≤ Y i
  col : ∀ j, j < n → D * c.getD j 0 ≤ sm (fun i => ca rs i j * Y i) rs.length
theorem Ph.dual (h : Ph n rs c W T bs) (hc : ∀ v, v < n + rs.length → 0 ≤ tt (colA n rs c) bs rs.length (colA n rs c v)) :
    Dual n rs c (Go.Det.den (colA n rs c) bs) (yx n rs c bs rs.length) ∧ sm (fun i => cb rs i * yx n rs c bs rs.length i) rs.length = tt (colA n rs c) bs rs.length (rhsQ rs) := by
  refine ⟨⟨den_pos h.bas.ne, fun i hi => hc (n + i) (by omega), fun j hj => ?_⟩, ?_⟩
  · have h1 := h.dual_sum (.inl rfl) (colA_V (n := n) (rs := rs) (c := c) j) (colA_w0 (by omega))
    have h2 := hc j (by omega)
    rw [h1, if_pos rfl, colA_low hj, if_neg (by omega), if_pos rfl] at h2
    have e : sm (fun i => colA n rs c j i * yx n rs c bs rs.length i) rs.length = sm (fun i => ca rs i j * yx n rs c bs rs.length i) rs.length := sm_congr fun i hi => by rw [colA_low hj, if_pos hi]; rfl
    rw [e] at h2
    have : -c.getD j 0 * Go.Det.den (colA n rs c) bs = -(Go.Det.den (colA n rs c) bs * c.getD j 0) := by grind
    omega
  · have h1 := h.dual_sum (.inl rfl) (rhsQ_V (rs := rs)) (show rhsQ rs (rs.length + 1) = 0 from if_neg (by omega))
    rw [h1, if_pos rfl, show rhsQ rs rs.length = 0 from if_neg (by omega), Int.zero_mul, Int.add_zero]
    exact sm_congr fun i hi => by rw [show rhsQ rs i = cb rs i from if_pos hi]
structure Refu (n : Nat) (rs : List Rw) (D : Int) (Y : Nat → Int) : Prop where
  den : 0 < D
  nn : ∀ i, i < rs.length → 0 ≤ Y i
  col : ∀ j, j < n → 0 ≤ sm (fun i => ca rs i j * Y i) rs.length
  neg : sm (fun i => cb rs i * Y i) rs.length < 0
theorem End1.refu {E : Tv} (h : End1 n rs c T E bs) (hv : tt (colA n rs c) bs (rs.length + 1) (rhsQ rs) < 0) : Refu n rs (Go.Det.den (colA n rs c) bs) (yx n rs c bs (rs.length + 1)) := by
  refine ⟨den_pos h.ph.bas.ne, fun i hi => h.cover (n + i) (by omega), fun j hj => ?_, ?_⟩
  · have h1 := h.ph.dual_sum (.inr rfl) (colA_V (n := n) (rs := rs) (c := c) j) (colA_w0 (by omega))
    have h2 := h.cover j (by omega)
    rw [h1, if_neg (by omega), Int.add_zero] at h2
    rw [sm_congr (g := fun i => ca rs i j * yx n rs c bs (rs.length + 1) i) fun i hi => by rw [colA_low hj, if_pos hi]; rfl] at h2
    exact h2
  · have h1 := h.ph.dual_sum (.inr rfl) (rhsQ_V (rs := rs)) (show rhsQ rs (rs.length + 1) = 0 from if_neg (by omega))
    rw [if_neg (by omega), Int.add_zero] at h1
    rw [h1, sm_congr (g := fun i => cb rs i * yx n rs c bs (rs.length + 1) i) fun i hi => by rw [show rhsQ rs i = cb rs i from if_pos hi]] at hv
    exact hv
structure Ray (n : Nat) (rs : List Rw) (c : List Int) (D : Int) (Z : Nat → Int) : Prop where
  den : 0 < D
  nn : ∀ v, v < n → 0 ≤ Z v
  row : ∀ i, i < rs.length → sm (fun j => ca rs i j * Z j) n ≤ 0
  goal : 0 < sm (fun j => c.getD j 0 * Z j) n
def zx (n : Nat) (rs : List Rw) (c : List Int) (bs : List Nat) (s v : Nat) : Int := (if v = s then Go.Det.den (colA n rs c) bs else 0) - vx n rs c bs (colA n rs c s) v
theorem Ph.ray (h : Ph n rs c (n + rs.length) T bs) {s : Nat} (hs : s < n + rs.length) (hb : ∀ k, k < rs.length → bs.getD k 0 ≠ s) (hg : tt (colA n rs c) bs rs.length (colA n rs c s) < 0) (hl : ∀ k, k < rs.length → tt (colA n rs c) bs k (colA n rs c s) ≤ 0) :
    Ray n rs c (Go.Det.den (colA n rs c) bs) (zx n rs c bs s) := by
  have hd := den_pos h.bas.ne
  have hv0 : ∀ v, vx n rs c bs (colA n rs c s) v ≤ 0 := fun v => by
    have : sm (fun k => if bs.getD k 0 = v then tt (colA n rs c) bs k (colA n rs c s) else 0) rs.length ≤ sm (fun _ => 0) rs.length := sm_le fun k hk => by
      split
      · exact hl k hk
      · exact Int.le_refl _
    rw [sm_zero (f := fun _ => 0) fun _ _ => rfl] at this
    exact this
  have hnn : ∀ v, 0 ≤ zx n rs c bs s v := fun v => by
    unfold zx
    have := hv0 v
    split <;> omega
  have hsum : ∀ i, sm (fun v => colA n rs c v i * zx n rs c bs s v) (n + rs.length) = Go.Det.den (colA n rs c) bs * colA n rs c s i - sm (fun v => colA n rs c v i * vx n rs c bs (colA n rs c s) v) (n + rs.length) := fun i => by
    have e : sm (fun v => colA n rs c v i * zx n rs c bs s v) (n + rs.length) = sm (fun v => (if v = s then colA n rs c v i * Go.Det.den (colA n rs c) bs else 0) + (-1) * (colA n rs c v i * vx n rs c bs (colA n rs c s) v)) (n + rs.length) := sm_congr fun v _ => by
      unfold zx
      split <;> grind
    rw [e, sm_add, sm_mul, sm_one hs fun v _ hv => if_neg hv, if_pos rfl, Int.mul_comm]
    omega
  refine ⟨hd, fun v _ => hnn v, fun i hi => ?_, ?_⟩
  · have h1 := h.rowsum (colA_V (n := n) (rs := rs) (c := c) s) (i := i) (by omega)
    rw [if_neg (by omega), Int.add_zero] at h1
    have h2 := hsum i
    rw [h1, Int.sub_self, low_sum i hi] at h2
    have := hnn (n + i)
    omega
  · have h1 := h.rowsum (colA_V (n := n) (rs := rs) (c := c) s) (i := rs.length) (Nat.le_refl _)
    rw [if_pos rfl] at h1
    have h2 := hsum rs.length
    rw [goal_sum] at h2
    omega
theorem Ph.pt_at (h : Ph n rs c (n + rs.length) T bs) {v : Nat} (hv : v < n) : (ptS T n T.bas.length).getD v 0 = shq (vx n rs c bs (rhsQ rs) v) (Go.Det.den (colA n rs c) bs) := by
  have hV := h.good.view
  rw [hV.basl]
  have key : ∀ q, q ≤ rs.length → (ptS T n q).getD v 0 = shq (sm (fun k => if bs.getD k 0 = v then tt (colA n rs c) bs k (rhsQ rs) else 0) q) (Go.Det.den (colA n rs c) bs) := by
    intro q hq
    induction q with
    | zero => simp only [ptS, sm, shq_zero]; simp [List.getD_eq_getElem?_getD, List.getElem?_replicate, hv]
    | succ q ih =>
      have ih := ih (by omega)
      have hbq := hV.basv q (by omega)
      have hl := ptS_len T n q
      simp only [ptS, sm]
      by_cases h1 : bs.getD q 0 = v
      · rw [if_pos (by rw [hbq, h1]; omega), hbq, h1, Int.toNat_natCast, set_getD (by omega), if_pos rfl, if_pos rfl, hV.den]
        rw [sm_zero fun k hk => if_neg fun e => h.bas.ne (dup_zero (i := q) (k := k) (by rw [h.bas.len]; omega) (by rw [h.bas.len]; omega) (by omega) (by rw [h1, e]))]
        rw [Int.zero_add, hV.rhs q (by have := hV.rm; omega)]
      · rw [if_neg h1, Int.add_zero, ← ih]
        split
        · rw [hbq, Int.toNat_natCast, set_getD (by rw [hl]; omega), if_neg h1]
        · rfl
  exact key rs.length (Nat.le_refl _)
theorem Ph.du_at (h : Ph n rs c W T bs) {g i : Nat} (hW : n + rs.length ≤ W) (hg : rs.length ≤ g) (hgT : g < T.rows.length) (hi : i < rs.length) : (duS T n rs.length g T.col.length).getD i 0 = shq (yx n rs c bs g i) (Go.Det.den (colA n rs c) bs) := by
  have hV := h.good.view
  have hC := h.good.cov
  have hl := duS_len T n rs.length g
  have hgM : g < rs.length + 2 := by have := hV.rM; omega
  have none : ∀ q, q ≤ T.col.length → (∀ j, j < q → T.col.getD j 0 ≠ ((n + i : Nat) : Int)) → (duS T n rs.length g q).getD i 0 = 0 := by
    intro q hq hn
    induction q with
    | zero => simp only [duS]; simp [List.getD_eq_getElem?_getD, List.getElem?_replicate, hi]
    | succ q ih =>
      have ih := ih (by omega) (fun j hj => hn j (by omega))
      simp only [duS]
      split
      · rw [set_getD (by rw [hl]; omega), if_neg (by have := hn q (by omega); omega)]; exact ih
      · exact ih
  rcases hC.all (n + i) (by omega) with ⟨k, hk, he⟩ | ⟨j, hj, he⟩
  · have hy : yx n rs c bs g i = 0 := by
      unfold yx
      rw [← he]; exact tt_other h.bas.len hgM (by omega) (by omega)
    rw [hy, shq_zero]
    refine none _ (Nat.le_refl _) (fun j hj e => ?_)
    have := hC.dis j k hj hk
    omega
  · have hy : yx n rs c bs g i = T.at g j := by
      rw [hV.num g hgT j hj, he, Int.toNat_natCast]; rfl
    have key : ∀ q, q ≤ T.col.length → j < q → (duS T n rs.length g q).getD i 0 = shq (T.at g j) T.den := by
      intro q hq hjq
      induction q with
      | zero => omega
      | succ q ih =>
        simp only [duS]
        by_cases h1 : j = q
        · subst h1
          rw [if_pos (by omega), set_getD (by rw [hl]; omega), if_pos (by omega)]
        · have ih := ih (by omega) (by omega)
          split
          · rw [set_getD (by rw [hl]; omega), if_neg (by have := hC.inj j q hj (by omega) h1; omega)]; exact ih
          · exact ih
    rw [key _ (Nat.le_refl _) hj, hy, hV.den]
theorem Ph.ra_at (h : Ph n rs c (n + rs.length) T bs) {e s v : Nat} (he : e < T.col.length) (hs : T.col.getD e 0 = (s : Int)) (hv : v < n) : (raS T n e T.bas.length).getD v 0 = shq (zx n rs c bs s v) (Go.Det.den (colA n rs c) bs) := by
  have hV := h.good.view
  have hC := h.good.cov
  rw [hV.basl]
  have hnb : ∀ k, k < rs.length → bs.getD k 0 ≠ s := fun k hk e2 => by have := hC.dis e k he hk; omega
  have key : ∀ q, q ≤ rs.length → (raS T n e q).getD v 0 = shq ((if v = s then Go.Det.den (colA n rs c) bs else 0) - sm (fun k => if bs.getD k 0 = v then tt (colA n rs c) bs k (colA n rs c s) else 0) q) (Go.Det.den (colA n rs c) bs) := by
    intro q hq
    induction q with
    | zero =>
      simp only [raS, sm, Int.sub_zero]
      rw [hs]
      by_cases h1 : v = s
      · subst h1
        rw [if_pos (by omega), Int.toNat_natCast, set_getD (by simp; omega), if_pos rfl, if_pos rfl, hV.den]
      · rw [if_neg h1, shq_zero]
        split
        · rw [Int.toNat_natCast, set_getD (by simp; omega), if_neg (Ne.symm h1)]; simp [List.getD_eq_getElem?_getD, List.getElem?_replicate, hv]
        · simp [List.getD_eq_getElem?_getD, List.getElem?_replicate, hv]
    | succ q ih =>
      have ih := ih (by omega)
      have hbq := hV.basv q (by omega)
      have hl := raS_len T n e q
      simp only [raS, sm]
      by_cases h1 : bs.getD q 0 = v
      · have hvs : v ≠ s := fun e2 => hnb q (by omega) (by rw [h1, e2])
        rw [if_pos (by rw [hbq, h1]; omega), hbq, h1, Int.toNat_natCast, set_getD (by omega), if_pos rfl, if_pos rfl, if_neg hvs, hV.den]
        rw [sm_zero fun k hk => if_neg fun e2 => h.bas.ne (dup_zero (i := q) (k := k) (by rw [h.bas.len]; omega) (by rw [h.bas.len]; omega) (by omega) (by rw [h1, e2]))]
        rw [hV.num q (by have := hV.rm; omega) e he, hs, Int.toNat_natCast]
        congr 1; omega
      · rw [if_neg h1, Int.add_zero, ← ih]
        split
        · rw [hbq, Int.toNat_natCast, set_getD (by rw [hl]; omega), if_neg h1]
        · rfl
  exact key rs.length (Nat.le_refl _)
end
end Go.Proofs.YtdhmbgogmoaofaaGreat
namespace Go.Proofs.YtdhmbgogmoaofaaGreat
open Go.Own Go.Limbs Go.Det
def ptl (n : Nat) (X : Nat → Int) (D : Int) : List Fr := (List.range n).map fun v => ofQ (shq (X v) D)
theorem list_range {α : Type} {l : List α} {n : Nat} {f : Nat → α} {z : α} (hl : l.length = n) (h : ∀ v, v < n → l.getD v z = f v) : l = (List.range n).map f := by
  subst hl
  rw [← range_self l z]
  rw [List.length_map, List.length_range]
  exact List.map_congr_left fun v hv => h v (by simpa using hv)
def Kt (m : Nat) : Nat := (m + 2) * (4503599627370496 * (fact (m + 2) * 1048576 ^ (m + 2)))
inductive Sol (n : Nat) (rs : List Rw) (c : List Int) : Oc → Prop
  | opt (D : Int) (X Y : Nat → Int) (val : Int) (hX : Feas n rs D X) (hv : sm (fun j => c.getD j 0 * X j) n = val) (hY : Dual n rs c D Y) (hw : sm (fun i => cb rs i * Y i) rs.length = val)
      (b1 : D.natAbs ≤ Kt rs.length) (b2 : ∀ v, v < n → (X v).natAbs ≤ Kt rs.length) (b3 : ∀ i, i < rs.length → (Y i).natAbs ≤ Kt rs.length) (b4 : val.natAbs ≤ Kt rs.length) : Sol n rs c ⟨1, ofQ (shq val D), ptl n X D, [], ptl rs.length Y D⟩
  | unb (D : Int) (X Z : Nat → Int) (hX : Feas n rs D X) (hZ : Ray n rs c D Z)
      (b1 : D.natAbs ≤ Kt rs.length) (b2 : ∀ v, v < n → (X v).natAbs ≤ Kt rs.length) (b3 : ∀ v, v < n → (Z v).natAbs ≤ Kt rs.length) : Sol n rs c ⟨2, frz0, ptl n X D, ptl n Z D, []⟩
  | emp (D : Int) (Y : Nat → Int) (hY : Refu n rs D Y) (b1 : D.natAbs ≤ Kt rs.length) (b3 : ∀ i, i < rs.length → (Y i).natAbs ≤ Kt rs.length) : Sol n rs c ⟨3, frz0, [], [], ptl rs.length Y D⟩
section
variable {n : Nat} {rs : List Rw} {c : List Int} {W : Nat} {T : Tv} {bs : List Nat}
theorem dT_Kt (h : LpOk n rs c) {i : Nat} {x : Vec} (hl : bs.length = rs.length + 2) (hi : i < rs.length + 2) (hx2 : x = rhsQ rs ∨ ∃ v, x = colA n rs c v) : (dT (colA n rs c) bs i x).natAbs ≤ Kt rs.length := by
  have dtb : ∀ l : List Vec, l.length = rs.length + 2 → (∀ x ∈ l, ∀ i, (x i).natAbs ≤ 1048576) → (dt l).natAbs ≤ fact (rs.length + 2) * 1048576 ^ (rs.length + 2) := fun l hl hA => by
    have h1 := dt_bd l hA
    rwa [hl] at h1
  unfold Kt
  rcases hx2 with rfl | ⟨v, rfl⟩
  · have e : rhsQ rs = comb (rhsQ rs) Go.Det.unit (rs.length + 2) := by
      funext j
      unfold comb
      by_cases hj : j < rs.length + 2
      · rw [sm_one hj fun k _ hk => by simp [Go.Det.unit, Ne.symm hk]]; simp [Go.Det.unit]
      · rw [rhsQ_V j (by omega), sm_zero fun k hk => by rw [show Go.Det.unit k j = 0 from if_neg (by omega), Int.mul_zero]]
    have e2 : dT (colA n rs c) bs i (rhsQ rs) = sm (fun k => rhsQ rs k * dt ((cols (colA n rs c) bs).set i (Go.Det.unit k))) (rs.length + 2) := by
      unfold dT
      conv => lhs; rw [e]
      exact dt_set_comb (by rw [cols_len]; omega) _ _ _
    rw [e2]
    refine sm_natAbs fun k _ => ?_
    rw [Int.natAbs_mul]
    refine Nat.mul_le_mul ?_ (dtb _ (by rw [List.length_set, cols_len]; exact hl) fun x hx i => ?_)
    · unfold rhsQ
      split
      · rename_i h2; exact h.bb _ (rs_mem h2)
      · decide
    · rcases mem_set_or hx with h3 | h3
      · exact cols_bd h h3 i
      · rw [h3]; unfold Go.Det.unit; split <;> decide
  · refine Nat.le_trans (dtb _ (by rw [List.length_set, cols_len]; exact hl) fun x hx i => ?_) ?_
    · rcases mem_set_or hx with h3 | h3
      · exact cols_bd h h3 i
      · rw [h3]; exact colA_bd h v i
    · exact Nat.le_trans (Nat.le_mul_of_pos_left _ (by decide)) (Nat.le_mul_of_pos_left _ (by omega))
theorem sgn_le1 (d : Int) : d.sign.natAbs ≤ 1 := by rw [Int.natAbs_sign]; split <;> omega
theorem tt_Kt (h : LpOk n rs c) {i : Nat} {x : Vec} (hl : bs.length = rs.length + 2) (hi : i < rs.length + 2) (hx2 : x = rhsQ rs ∨ ∃ v, x = colA n rs c v) : (tt (colA n rs c) bs i x).natAbs ≤ Kt rs.length := by
  unfold tt
  rw [Int.natAbs_mul]
  have h1 := Nat.mul_le_mul (sgn_le1 (dD (colA n rs c) bs)) (dT_Kt h hl hi hx2)
  omega
theorem den_Kt (h : LpOk n rs c) (hP : Ph n rs c W T bs) : (Go.Det.den (colA n rs c) bs).natAbs ≤ Kt rs.length := by
  have := tt_Kt h (i := rs.length) hP.bas.len (by omega) (.inr ⟨bs.getD rs.length 0, rfl⟩)
  rwa [tt_own hP.bas.len (by omega)] at this
theorem vx_Kt (h : LpOk n rs c) (hP : Ph n rs c W T bs) {x : Vec} (hx2 : x = rhsQ rs ∨ ∃ v, x = colA n rs c v) (v : Nat) : (vx n rs c bs x v).natAbs ≤ Kt rs.length := by
  by_cases hb : ∃ k, k < rs.length ∧ bs.getD k 0 = v
  · obtain ⟨k, hk, rfl⟩ := hb
    rw [vx_row hP hk]; exact tt_Kt h hP.bas.len (by omega) hx2
  · rw [vx_out fun k hk e => hb ⟨k, hk, e⟩]; exact Nat.zero_le _
theorem lp_sol (hL : LpOk n rs c) : ∃ T E F s, SolRun n rs c T E F s ∧ Sol n rs c (ocOf n rs.length T E F s) := by
  have hS := lp_sys hL
  let T : Tv := ⟨.slice none 0 0, .slice none 0 0, .slice none 0 0, List.replicate (rs.length + 1) default, (rs.map fun r => lnOf n r.cs r.b) ++ [lnOf n (c.map fun x => -x) 0], rng n rs.length, rng 0 n, 1⟩
  have hB : Beg n rs c T := ⟨rfl, rfl, rfl, rfl, by show (List.replicate _ _).length = _; simp [T]⟩
  have hbl : T.bas.length = rs.length := by rw [hB.bas, rng_len]
  have hcl : T.col.length = n := by rw [hB.col, rng_len]
  obtain ⟨E, hst, hE⟩ := hB.start hL
  generalize T = T at *
  have second : ∀ P bs, Ph n rs c (n + rs.length) P bs → P.rows.length = rs.length + 1 → P.col.length = n → stOut T E ((n + rs.length : Nat) : Int) = P → stRes T E = true →
      ∃ F s, SolRun n rs c T E F s ∧ Sol n rs c (ocOf n rs.length T E F s) := by
    intro P bs hP hPr hPc hout hres
    obtain ⟨k, F, s, bf, hR, hG, hEn, hr, hj⟩ := hP.good.ends hS (g := rs.length) (Nat.le_refl _) (by rw [hPr]; omega) (hP.small (Nat.le_refl _))
    have hF : Ph n rs c (n + rs.length) F bf := ⟨hG, by rw [hj _ (Nat.le_refl _)]; exact hP.z, by rw [hj _ (by omega)]; exact hP.w⟩
    have hV := hG.view
    have hlen := hR.lens
    have hcol : ∀ i, 0 ≤ F.col.getD i 0 := hV.colv
    have hbas : ∀ i, 0 ≤ F.bas.getD i 0 := fun i => by
      by_cases h1 : i < rs.length
      · rw [hV.basv i h1]; omega
      · rw [getD_ge (by rw [hV.basl]; omega)]; exact Int.le_refl _
    have hpt : (ptS F n F.bas.length).map ofQ = ptl n (vx n rs c bf (rhsQ rs)) (Go.Det.den (colA n rs c) bf) := by
      rw [list_range (ptS_len F n _) (fun v hv => hF.pt_at hv), List.map_map]; rfl
    have hpo := hF.point
    have hdK := den_Kt hL hF
    have hvK := fun v => vx_Kt hL hF (.inl rfl) v
    rcases hEn with ⟨hs, h1⟩ | ⟨e, hs, he, h1, h2⟩
    · refine ⟨F, s, ⟨hB, hst, fun h => (by rw [hres] at h; cases h), fun _ => ⟨k, by rw [hout]; exact hR⟩, fun _ => ⟨by rw [hr, hPr], hcol, hbas, by rw [hs]; omega, by rw [hs]; decide⟩⟩, ?_⟩
      have hdu := hF.dual h1
      have e1 : ocOf n rs.length T E F s = ⟨1, ofQ (shq (F.at rs.length F.col.length) F.den), (ptS F n F.bas.length).map ofQ, [], (duS F n rs.length rs.length F.col.length).map ofQ⟩ := by
        unfold ocOf; rw [if_neg (by rw [hres]; decide), if_neg (by rw [hs]; decide)]
      have hdl : (duS F n rs.length rs.length F.col.length).map ofQ = ptl rs.length (yx n rs c bf rs.length) (Go.Det.den (colA n rs c) bf) := by
        rw [list_range (duS_len F n rs.length rs.length _) (fun i hi => hF.du_at (Nat.le_refl _) (Nat.le_refl _) (by rw [hr, hPr]; omega) hi), List.map_map]; rfl
      rw [e1, hpt, hdl, hV.rhs rs.length (by rw [hr, hPr]; omega), hV.den]
      exact .opt _ _ _ _ hpo.1 hpo.2 hdu.1 hdu.2 hdK (fun v _ => hvK v) (fun i _ => tt_Kt hL hF.bas.len (by omega) (.inr ⟨_, rfl⟩)) (tt_Kt hL hF.bas.len (by omega) (.inl rfl))
    · refine ⟨F, s, ⟨hB, hst, fun h => (by rw [hres] at h; cases h), fun _ => ⟨k, by rw [hout]; exact hR⟩, fun _ => ⟨by rw [hr, hPr], hcol, hbas, by rw [hs]; omega, by rw [hs]; omega⟩⟩, ?_⟩
      have hcW := hG.cov.col e he
      have hcn := hcol e
      obtain ⟨v0, hv0⟩ : ∃ v0 : Nat, F.col.getD e 0 = v0 := ⟨(F.col.getD e 0).toNat, by omega⟩
      rw [hv0, Int.toNat_natCast] at h1 h2
      have hnb : ∀ k, k < rs.length → bf.getD k 0 ≠ v0 := fun k hk e2 => by have := hG.cov.dis e k he hk; omega
      have hra := hF.ray (s := v0) (by omega) hnb h1 h2
      have e1 : ocOf n rs.length T E F s = ⟨2, frz0, (ptS F n F.bas.length).map ofQ, (raS F n e F.bas.length).map ofQ, []⟩ := by
        unfold ocOf; rw [if_neg (by rw [hres]; decide), if_pos (by omega), hs, Int.toNat_natCast]
      have hrl : (raS F n e F.bas.length).map ofQ = ptl n (zx n rs c bf v0) (Go.Det.den (colA n rs c) bf) := by
        rw [list_range (raS_len F n e _) (fun v hv => hF.ra_at he hv0 hv), List.map_map]; rfl
      rw [e1, hpt, hrl]
      refine .unb _ _ _ hpo.1 hra hdK (fun v _ => hvK v) (fun v _ => ?_)
      have hb := vx_Kt hL hF (x := colA n rs c v0) (.inr ⟨_, rfl⟩) v
      unfold zx
      by_cases h3 : v = v0
      · rw [if_pos h3, h3, vx_out hnb, Int.sub_zero]; exact hdK
      · rw [if_neg h3]; omega
  cases hE with
  | keep hw h hc =>
    have hout : stOut T E ((n + rs.length : Nat) : Int) = T := by unfold stOut; rw [hbl, if_pos hw]
    have hres : stRes T E = true := by unfold stRes; rw [hbl, decide_eq_true hw]; rfl
    obtain ⟨F, s, h1, h2⟩ := second T _ h hB.len hc hout hres
    exact ⟨T, E, F, s, h1, h2⟩
  | none bs hw h hv ha =>
    have hres : stRes T E = false := by unfold stRes; rw [hbl, hcl, decide_eq_false (by omega), decide_eq_true ha]; rfl
    have hP := h.ph
    have hV := hP.good.view
    have e1 : ocOf n rs.length T E E 0 = ⟨3, frz0, [], [], (duS E n rs.length (rs.length + 1) E.col.length).map ofQ⟩ := by
      unfold ocOf; rw [if_pos hres]
    have hdl : (duS E n rs.length (rs.length + 1) E.col.length).map ofQ = ptl rs.length (yx n rs c bs (rs.length + 1)) (Go.Det.den (colA n rs c) bs) := by
      rw [list_range (duS_len E n rs.length (rs.length + 1) _) (fun i hi => hP.du_at (by omega) (by omega) (by rw [h.rows]; omega) hi), List.map_map]; rfl
    refine ⟨T, E, E, 0, ⟨hB, hst, fun _ => ⟨hV.gd hS hP.good.hl hP.good.few hP.good.thin, h.rows, hV.colv⟩, fun h1 => (by rw [hres] at h1; cases h1), fun h1 => (by rw [hres] at h1; cases h1)⟩, ?_⟩
    rw [e1, hdl]
    exact .emp _ _ (h.refu hv) (den_Kt hL hP) (fun i _ => tt_Kt hL hP.bas.len (by omega) (.inr ⟨_, rfl⟩))
  | some bs hw ha h hc hr =>
    have hout : stOut T E ((n + rs.length : Nat) : Int) = stE3 E rs.length n ((n + rs.length : Nat) : Int) := by unfold stOut; rw [hbl, hcl, if_neg (by omega), if_neg ha]
    have hres : stRes T E = true := by unfold stRes; rw [hbl, hcl, decide_eq_false ha]; simp
    obtain ⟨F, s, h1, h2⟩ := second _ _ h hr hc hout hres
    exact ⟨T, E, F, s, h1, h2⟩
theorem sm_mul_r (f : Nat → Int) (c : Int) (n : Nat) : sm (fun k => f k * c) n = sm f n * c := by
  rw [sm_congr (g := fun k => c * f k) fun k _ => Int.mul_comm _ _, sm_mul, Int.mul_comm]
theorem comb_swap (rs : List Rw) (X Y : Nat → Int) (n : Nat) : sm (fun j => sm (fun i => ca rs i j * Y i) rs.length * X j) n = sm (fun i => Y i * sm (fun j => ca rs i j * X j) n) rs.length := by
  rw [sm_congr (g := fun j => sm (fun i => ca rs i j * Y i * X j) rs.length) fun j _ => (sm_mul_r _ _ _).symm]
  rw [sm_swap (fun i j => ca rs i j * Y i * X j) rs.length n]
  exact sm_congr fun i _ => by
    rw [← sm_mul]
    exact sm_congr fun j _ => by grind
theorem weak {D D' : Int} {X Y : Nat → Int} (hX : Feas n rs D X) (hY : Dual n rs c D' Y) : D' * sm (fun j => c.getD j 0 * X j) n ≤ D * sm (fun i => cb rs i * Y i) rs.length := by
  have h1 : D' * sm (fun j => c.getD j 0 * X j) n ≤ sm (fun j => sm (fun i => ca rs i j * Y i) rs.length * X j) n := by
    rw [← sm_mul]
    refine sm_le fun j hj => ?_
    have := Int.mul_le_mul_of_nonneg_right (hY.col j hj) (hX.nn j hj)
    rw [← Int.mul_assoc]; exact this
  rw [comb_swap] at h1
  refine Int.le_trans h1 ?_
  rw [← sm_mul]
  refine sm_le fun i hi => ?_
  have := Int.mul_le_mul_of_nonneg_left (hX.row i hi) (hY.nn i hi)
  have e : Y i * (D * cb rs i) = D * (cb rs i * Y i) := by grind
  rw [← e]; exact this
theorem no_refu {D D' : Int} {X Y : Nat → Int} (hX : Feas n rs D X) (hY : Refu n rs D' Y) : False := by
  have h1 : 0 ≤ sm (fun j => sm (fun i => ca rs i j * Y i) rs.length * X j) n := sm_nonneg fun j hj => Int.mul_nonneg (hY.col j hj) (hX.nn j hj)
  rw [comb_swap] at h1
  have h2 : sm (fun i => Y i * sm (fun j => ca rs i j * X j) n) rs.length ≤ D * sm (fun i => cb rs i * Y i) rs.length := by
    rw [← sm_mul]
    refine sm_le fun i hi => ?_
    have := Int.mul_le_mul_of_nonneg_left (hX.row i hi) (hY.nn i hi)
    have e : Y i * (D * cb rs i) = D * (cb rs i * Y i) := by grind
    rw [← e]; exact this
  have h3 := Int.mul_neg_of_pos_of_neg hX.den hY.neg
  omega
theorem no_ray {D D' : Int} {Z Y : Nat → Int} (hZ : Ray n rs c D Z) (hY : Dual n rs c D' Y) : False := by
  have h1 : D' * sm (fun j => c.getD j 0 * Z j) n ≤ sm (fun j => sm (fun i => ca rs i j * Y i) rs.length * Z j) n := by
    rw [← sm_mul]
    refine sm_le fun j hj => ?_
    have := Int.mul_le_mul_of_nonneg_right (hY.col j hj) (hZ.nn j hj)
    rw [← Int.mul_assoc]; exact this
  rw [comb_swap] at h1
  have h2 : sm (fun i => Y i * sm (fun j => ca rs i j * Z j) n) rs.length ≤ sm (fun _ => 0) rs.length := sm_le fun i hi => Int.mul_nonpos_of_nonneg_of_nonpos (hY.nn i hi) (hZ.row i hi)
  rw [sm_zero (f := fun _ => 0) fun _ _ => rfl] at h2
  have h3 := Int.mul_pos hY.den hZ.goal
  omega
end
end Go.Proofs.YtdhmbgogmoaofaaGreat
namespace Go.Proofs.YtdhmbgogmoaofaaGreat
open Go.Own Go.Limbs Go.Det
structure F6 (f : Fr) : Prop where
  num : f.num < 1073741824 ^ 6
  den : f.den < 1073741824 ^ 6
  pos : 0 < f.den
  neg : f.neg = true → f.num ≠ 0
theorem F6.vf {f : Fr} (h : F6 f) : VF f := ⟨Nat.le_trans (limbs_length_le h.num) (by decide), Nat.le_trans (limbs_length_le h.den) (by decide), h.pos, h.neg⟩
structure F9 (f : Fr) : Prop where
  num : f.num < 1073741824 ^ 9
  den : f.den < 1073741824 ^ 9
  pos : 0 < f.den
  neg : f.neg = true → f.num ≠ 0
theorem F6.f9 {f : Fr} (h : F6 f) : F9 f := ⟨Nat.lt_trans h.num (by decide), Nat.lt_trans h.den (by decide), h.pos, h.neg⟩
theorem mk_le (N : Int) (P : Nat) (hP : 0 < P) : (ofQ (mkRat N P)).num ≤ N.natAbs ∧ (ofQ (mkRat N P)).den ≤ P := by
  have h := redF_q (decide (N < 0)) N.natAbs P hP
  rw [sg_natAbs] at h
  rw [← h]
  exact ⟨Nat.div_le_self _ _, Nat.div_le_self _ _⟩
theorem prod_mk (c : Int) (f : Fr) (h : 0 < f.den) : (c : Rat) * qv f = mkRat (c * sg f.neg f.num) f.den := by
  have e : (c : Rat) = mkRat c 1 := (Rat.mkRat_one c).symm
  unfold qv
  rw [e, Rat.mkRat_mul_mkRat, Nat.one_mul]
theorem sg_abs (n : Bool) (a : Nat) : (sg n a).natAbs = a := natAbs_sg n a
theorem psum_mk (c : List Int) (xs : List Fr) (hc : ∀ i, (c.getD i 0).natAbs ≤ 9223372036854775808) : ∀ k, (∀ j, j < k → F9 (xs.getD j fr0)) → ∃ (N : Int) (P : Nat), 0 < P ∧ psum c xs k = mkRat N P ∧ P ≤ 1073741824 ^ (9 * k) ∧ N.natAbs ≤ k * (9223372036854775808 * 1073741824 ^ (9 * k))
  | 0, _ => ⟨0, 1, by decide, by simp [psum], by decide, by decide⟩
  | k + 1, hx => by
    obtain ⟨N, P, hP, he, hPb, hNb⟩ := psum_mk c xs hc k (fun j hj => hx j (by omega))
    have hf := hx k (by omega)
    generalize hff : xs.getD k fr0 = f at hf
    have hck := hc k
    have hpr := prod_mk (c.getD k 0) f hf.pos
    have hsg := sg_abs f.neg f.num
    have hn := hf.num
    have hd := hf.den
    have hd0 := hf.pos
    refine ⟨N * f.den + c.getD k 0 * sg f.neg f.num * P, P * f.den, Nat.mul_pos hP hf.pos, ?_, ?_, ?_⟩
    · simp only [psum]
      rw [he, hff, hpr, Rat.mkRat_add_mkRat _ _ (by omega) (by omega)]
    · rw [show 9 * (k + 1) = 9 * k + 9 by omega, Nat.pow_add]
      exact Nat.mul_le_mul hPb (by omega)
    · have e : 1073741824 ^ (9 * (k + 1)) = 1073741824 ^ (9 * k) * 1073741824 ^ 9 := by rw [show 9 * (k + 1) = 9 * k + 9 by omega, Nat.pow_add]
      rw [e]
      generalize 1073741824 ^ (9 * k) = Q at *
      have h1 : (N * f.den).natAbs ≤ k * (9223372036854775808 * Q) * 1073741824 ^ 9 := by
        rw [Int.natAbs_mul]; exact Nat.mul_le_mul hNb (by omega)
      have h2 : (c.getD k 0 * sg f.neg f.num * P).natAbs ≤ 9223372036854775808 * 1073741824 ^ 9 * Q := by
        rw [Int.natAbs_mul, Int.natAbs_mul, hsg]
        exact Nat.mul_le_mul (Nat.mul_le_mul hck (by omega)) hPb
      have h3 : (N * f.den + c.getD k 0 * sg f.neg f.num * P).natAbs ≤ (N * f.den).natAbs + (c.getD k 0 * sg f.neg f.num * P).natAbs := Int.natAbs_add_le _ _
      have e2 : (k + 1) * (9223372036854775808 * (Q * 1073741824 ^ 9)) = k * (9223372036854775808 * Q) * 1073741824 ^ 9 + 9223372036854775808 * 1073741824 ^ 9 * Q := by
        generalize (1073741824 : Nat) ^ 9 = R
        grind
      omega
theorem psum_sz (c : List Int) (xs : List Fr) (hc : ∀ i, (c.getD i 0).natAbs ≤ 9223372036854775808) {k : Nat} (hk : k ≤ 6) (hx : ∀ j, j < k → F9 (xs.getD j fr0)) :
    (limbs (ofQ (psum c xs k)).num).length ≤ 57 ∧ (limbs (ofQ (psum c xs k)).den).length ≤ 55 ∧ (k ≤ 5 → (limbs (ofQ (psum c xs k)).num).length ≤ 48 ∧ (limbs (ofQ (psum c xs k)).den).length ≤ 46) := by
  obtain ⟨N, P, hP, he, hPb, hNb⟩ := psum_mk c xs hc k hx
  have hm := mk_le N P hP
  rw [← he] at hm
  have p6 : ∀ a, k ≤ a → 1073741824 ^ (9 * k) ≤ 1073741824 ^ (9 * a) := fun a ha => Nat.pow_le_pow_right (by decide) (by omega)
  have nb : ∀ a, k ≤ a → N.natAbs ≤ a * (9223372036854775808 * 1073741824 ^ (9 * a)) := fun a ha => Nat.le_trans hNb (Nat.mul_le_mul ha (Nat.mul_le_mul_left _ (p6 a ha)))
  refine ⟨limbs_length_le (Nat.lt_of_le_of_lt (Nat.le_trans hm.1 (nb 6 hk)) (by decide)), limbs_length_le (Nat.lt_of_le_of_lt (Nat.le_trans hm.2 (Nat.le_trans hPb (p6 6 hk))) (by decide)), fun h5 => ⟨limbs_length_le (Nat.lt_of_le_of_lt (Nat.le_trans hm.1 (nb 5 h5)) (by decide)), limbs_length_le (Nat.lt_of_le_of_lt (Nat.le_trans hm.2 (Nat.le_trans hPb (p6 5 h5))) (by decide))⟩⟩
theorem vfit9 (c : List Int) (xs : List Fr) (hcl : c.length ≤ 1000) (hc : ∀ i, -9223372036854775808 ≤ c.getD i 0 ∧ c.getD i 0 ≤ 9223372036854775807) (hxl : xs.length ≤ 6) (hx : ∀ f ∈ xs, F9 f) : VFit c xs ∧ (limbs (ofQ (vsum c xs)).num).length ≤ 57 ∧ (limbs (ofQ (vsum c xs)).den).length ≤ 55 := by
  have hc' : ∀ i, (c.getD i 0).natAbs ≤ 9223372036854775808 := fun i => by have := hc i; omega
  have hx' : ∀ k, k < min c.length xs.length → F9 (xs.getD k fr0) := fun k hk => hx _ (getD_mem (by omega))
  have hp : ∀ k, k < min c.length xs.length → (limbs (ofQ ((c.getD k 0 : Rat) * qv (xs.getD k fr0))).num).length ≤ 12 ∧ (limbs (ofQ ((c.getD k 0 : Rat) * qv (xs.getD k fr0))).den).length ≤ 9 := fun k hk => by
    have hf := hx' k hk
    have hm := mk_le (c.getD k 0 * sg (xs.getD k fr0).neg (xs.getD k fr0).num) (xs.getD k fr0).den hf.pos
    rw [← prod_mk _ _ hf.pos] at hm
    have h1 : (c.getD k 0 * sg (xs.getD k fr0).neg (xs.getD k fr0).num).natAbs ≤ 9223372036854775808 * 1073741824 ^ 9 := by
      rw [Int.natAbs_mul, sg_abs]; exact Nat.mul_le_mul (hc' k) (Nat.le_of_lt hf.num)
    exact ⟨limbs_length_le (Nat.lt_of_le_of_lt (Nat.le_trans hm.1 h1) (by decide)), limbs_length_le (Nat.lt_of_le_of_lt hm.2 hf.den)⟩
  have hs : ∀ k, k < min c.length xs.length → (limbs (ofQ (psum c xs k)).num).length ≤ 48 ∧ (limbs (ofQ (psum c xs k)).den).length ≤ 46 := fun k hk => (psum_sz c xs hc' (by omega) (fun j hj => hx' j (by omega))).2.2 (by omega)
  have hv := psum_sz c xs hc' (k := min c.length xs.length) (by omega) hx'
  refine ⟨⟨hcl, by omega, hc, fun k hk => (hx' k hk).pos, fun k hk => ?_, fun k hk => ?_, fun k hk => ?_, fun k hk => ?_, fun k hk => ?_⟩, hv.1, hv.2.1⟩
  · have h1 : (limbs (ofQ (c.getD k 0 : Rat)).num).length ≤ 3 := limbs_length_le (Nat.lt_of_le_of_lt (show (ofQ (c.getD k 0 : Rat)).num ≤ 9223372036854775808 from hc' k) (by decide))
    have h2 := limbs_length_le (hx' k hk).num
    omega
  · have h2 := limbs_length_le (hx' k hk).den
    omega
  · have h1 := hp k hk; have h2 := hs k hk; omega
  · have h1 := hp k hk; have h2 := hs k hk; omega
  · have h1 := hp k hk; have h2 := hs k hk; omega
theorem sfit9 (n : Int) (rs : List Rw) (xs : List Fr) (hv : validR n rs = true) (hxl : xs.length ≤ 6) (hx : ∀ f ∈ xs, F9 f) : SFit rs xs := by
  obtain ⟨v1, v2, v3, v4⟩ := validR_spec hv
  have key : ∀ r ∈ rs, VFit r.cs xs ∧ (limbs (ofQ (vsum r.cs xs)).num).length ≤ 57 ∧ (limbs (ofQ (vsum r.cs xs)).den).length ≤ 55 := fun r hr => by
    obtain ⟨h1, h2, h3⟩ := v4 r hr
    refine vfit9 r.cs xs (by omega) (fun i => ?_) hxl hx
    rcases Nat.lt_or_ge i r.cs.length with h4 | h4
    · have := h2 _ (getD_mem (z := 0) h4); omega
    · rw [getD_ge h4]; decide
  exact ⟨fun r hr => (key r hr).1, fun r hr => by have := (key r hr).2.1; omega, fun r hr => by have := (key r hr).2.2; omega⟩
theorem sfit6 (n : Int) (rs : List Rw) (xs : List Fr) (hv : validR n rs = true) (hxl : xs.length ≤ 6) (hx : ∀ f ∈ xs, F6 f) : SFit rs xs := sfit9 n rs xs hv hxl fun f hf => (hx f hf).f9
theorem sol_opt {n : Nat} {rs : List Rw} {c : List Int} {O : Oc} (h : Sol n rs c O) {D1 D2 : Int} {X Y : Nat → Int} (hX : Feas n rs D1 X) (hY : Dual n rs c D2 Y) {v : Int} (e1 : sm (fun j => c.getD j 0 * X j) n = D1 * v) (e2 : sm (fun i => cb rs i * Y i) rs.length = D2 * v) : O.kind = 1 ∧ O.value = ofQ (v : Rat) := by
  cases h with
  | opt D X' Y' val hX' hv hY' hw b1 b2 b3 b4 =>
    refine ⟨rfl, ?_⟩
    have w1 := weak hX' hY
    have w2 := weak hX hY'
    rw [hv, e2] at w1
    rw [e1, hw] at w2
    have hD := hX'.den
    have d1 := hX.den
    have d2 := hY.den
    have h1 : val ≤ D * v := by
      have : D2 * val ≤ D2 * (D * v) := by rw [show D2 * (D * v) = D * (D2 * v) by grind]; exact w1
      exact Int.le_of_mul_le_mul_left this d2
    have h2 : D * v ≤ val := by
      have : D1 * (D * v) ≤ D1 * val := by rw [show D1 * (D * v) = D * (D1 * v) by grind]; exact w2
      exact Int.le_of_mul_le_mul_left this d1
    have h3 : val = D * v := by omega
    show ofQ (shq val D) = _
    rw [h3]
    unfold shq
    congr 1
    obtain ⟨d, rfl⟩ : ∃ d : Nat, D = d := ⟨D.toNat, by omega⟩
    rw [Int.natAbs_natCast, ← Rat.divInt_ofNat, show ((d : Int) * v) = (d : Int) * v from rfl]
    have := Rat.divInt_mul_left (n := v) (d := 1) (a := (d : Int)) (by omega)
    rw [Int.mul_one] at this
    rw [this, divInt_one]
  | unb D X' Z hX' hZ => exact (no_ray hZ hY).elim
  | emp D Y' hY' => exact (no_refu hX hY').elim
theorem sol_emp {n : Nat} {rs : List Rw} {c : List Int} {O : Oc} (h : Sol n rs c O) {D : Int} {Y : Nat → Int} (hY : Refu n rs D Y) : O.kind = 3 := by
  cases h with
  | opt D X' Y' val hX' => exact (no_refu hX' hY).elim
  | unb D X' Z hX' hZ => exact (no_refu hX' hY).elim
  | emp D Y' hY' => rfl
theorem lp_of {n : Int} {rs : List Rw} {c : List Int} (hv : validR n rs = true) (hc : okCoeffs n c = true) : ∃ N : Nat, n = N ∧ LpOk N rs c := by
  obtain ⟨v1, v2, v3, v4⟩ := validR_spec hv
  obtain ⟨N, rfl⟩ : ∃ N : Nat, n = N := ⟨n.toNat, by omega⟩
  have bdd : ∀ xs : List Int, (∀ y ∈ xs, y.natAbs ≤ 1048576) → ∀ i, (xs.getD i 0).natAbs ≤ 1048576 := fun xs hx i => by
    rcases Nat.lt_or_ge i xs.length with h | h
    · exact hx _ (getD_mem h)
    · rw [getD_ge h]; decide
  unfold okCoeffs at hc
  rw [Bool.and_eq_true] at hc
  have h1 := of_decide_eq_true hc.1
  have h2 : ∀ y ∈ c, y.natAbs ≤ 1048576 := fun y hy => by
    have h3 : c.any badC = false := by simpa using hc.2
    have h4 := List.any_eq_false.1 h3 y hy
    unfold badC at h4
    simp only [Bool.or_eq_true, decide_eq_true_eq, not_or] at h4
    omega
  exact ⟨N, rfl, ⟨by omega, v3, by omega, bdd c h2, fun r hr => by have := (v4 r hr).1; omega, fun r hr => bdd _ (v4 r hr).2.1, fun r hr => (v4 r hr).2.2⟩⟩
end Go.Proofs.YtdhmbgogmoaofaaGreat
namespace Go.Proofs.YtdhmbgogmoaofaaGreat
open Go.Own Go.Limbs Go.Det
end Go.Proofs.YtdhmbgogmoaofaaGreat
namespace Go.Proofs.YtdhmbgogmoaofaaGreat
open Go.Own Go.Limbs Go.Det
theorem mkR_le {a b : Int} {d e : Nat} (hd : 0 < d) (he : 0 < e) (h : a * e ≤ b * d) : mkRat a d ≤ mkRat b e := by
  cases ep : mkRat a d with
  | mk' pn pd z1 c1 =>
    cases eq : mkRat b e with
    | mk' qn qd z2 c2 =>
      obtain ⟨m, hm, e1, e2⟩ := Rat.mkRat_num_den (by omega) ep
      obtain ⟨k, hk, e3, e4⟩ := Rat.mkRat_num_den (by omega) eq
      rw [Rat.le_iff]
      dsimp only
      subst e1 e2 e3 e4
      rw [Int.natCast_mul, Int.natCast_mul] at h
      have hmk : (0 : Int) < (m : Int) * k := by exact_mod_cast Nat.mul_pos (Nat.pos_of_ne_zero hm) (Nat.pos_of_ne_zero hk)
      refine Int.le_of_mul_le_mul_left ?_ hmk
      rw [show (m : Int) * k * (pn * qd) = pn * m * (qd * k) by grind, show (m : Int) * k * (qn * pd) = qn * k * (pd * m) by grind]
      exact h
end Go.Proofs.YtdhmbgogmoaofaaGreat
namespace Go.Proofs.YtdhmbgogmoaofaaGreat
open Go.Own Go.Limbs
attribute [local irreducible] St Ops Go.Own.Fin Ok
end Go.Proofs.YtdhmbgogmoaofaaGreat
namespace Go.Proofs.YtdhmbgogmoaofaaGreat
open Go.Own Go.Limbs
attribute [local irreducible] St Ops Go.Own.Fin Ok
def frs (ms : List Int) : List CT := (ms.map fun m => frCs (tf m)).flatten
def col (rs : List Rw) (ys : List Int) (j : Nat) : Int := dot (rs.map fun r => r.cs.getD j 0) ys
def cols (rs : List Rw) (ys : List Int) (n : Nat) : List Int := (List.range n).map (col rs ys)
def bsum (rs : List Rw) (ys : List Int) : Int := dot (rs.map fun r => r.b) ys
def covB (os c : List Int) : Bool := decide (c.length ≤ os.length) && (List.range os.length).all fun j => decide (12 * c.getD j 0 ≤ os.getD j 0)
end Go.Proofs.YtdhmbgogmoaofaaGreat
namespace Go.Proofs.YtdhmbgogmoaofaaGreat
open Go.Own Go.Limbs
attribute [local irreducible] St Ops Go.Own.Fin Ok
def pruned (ys : List Int) : Nat → List Int
  | 0 => []
  | i + 1 => if ys.getD i 0 = 0 then pruned ys i else pruned ys i ++ [(i : Int)]
end Go.Proofs.YtdhmbgogmoaofaaGreat
namespace Go.Proofs.YtdhmbgogmoaofaaGreat
open Go.Own Go.Limbs
attribute [local irreducible] St Ops Go.Own.Fin Ok
end Go.Proofs.YtdhmbgogmoaofaaGreat
namespace Go.Proofs.YtdhmbgogmoaofaaGreat
open Go.Own Go.Limbs
attribute [local irreducible] St Ops Go.Own.Fin Ok OkB OkN wpA
theorem goEqual : InGo Tryz.prog 19 := InGo.of Tryz.func19 rfl (by decide)
set_option maxHeartbeats 4000000 in
theorem Equal_refl (f : Fr) (hn : (limbs f.num).length ≤ 1000) (hd : (limbs f.den).length ≤ 1000) : Ok Tryz.prog 19 [fracC f, fracC f] (boolC true) := by
  refine Ok.enter Tryz.func19 rfl _ Tryz.ntmps19 rfl ?_
  intro S w
  (refine St.seq ?_; refine St.regionK (fun K hK => ?_); refine Ops.boxN 0 rfl rfl rfl rfl rfl rfl rfl ?_; refine Ops.boxN 1 rfl rfl rfl rfl rfl rfl rfl ?_; refine Ops.assign rfl rfl rfl ?_; refine Ops.nil (hK _ _ ?_); clear hK K; refine Fin.then ?_; refine St.seq ?_; refine St.seq ?_; refine St.regionK (fun K hK => ?_); refine Ops.fldO rfl rfl rfl (by with_reducible first | exact fF0 | exact fF1 | exact fF2 | exact fR0 | exact fR1) rfl ?_; refine Ops.ld1A rfl rfl rfl rfl rfl (by with_reducible first | exact lInt | exact lNat | exact lBool | exact lInts) rfl ?_; refine Ops.fldO rfl rfl rfl (by with_reducible first | exact fF0 | exact fF1 | exact fF2 | exact fR0 | exact fR1) rfl ?_; refine Ops.ld1A rfl rfl rfl rfl rfl (by with_reducible first | exact lInt | exact lNat | exact lBool | exact lInts) rfl ?_)
  refine Ops.bne rfl rfl rfl (by with_reducible exact uBool) rfl ?_
  (refine Ops.move rfl rfl rfl ?_)
  refine Ops.splitP 12 rfl (fun h => absurd rfl h) (fun _ => ?_)
  (refine Ops.fldO rfl rfl rfl (by with_reducible first | exact fF0 | exact fF1 | exact fF2 | exact fR0 | exact fR1) rfl ?_; refine Ops.ld1A rfl rfl rfl rfl rfl (by with_reducible first | exact lInt | exact lNat | exact lBool | exact lInts) rfl ?_; refine Ops.lenF rfl rfl (by with_reducible first | exact sNat.und | exact sInts.und) (List.length_map ..) rfl ?_; refine Ops.fldO rfl rfl rfl (by with_reducible first | exact fF0 | exact fF1 | exact fF2 | exact fR0 | exact fR1) rfl ?_; refine Ops.ld1A rfl rfl rfl rfl rfl (by with_reducible first | exact lInt | exact lNat | exact lBool | exact lInts) rfl ?_; refine Ops.lenF rfl rfl (by with_reducible first | exact sNat.und | exact sInts.und) (List.length_map ..) rfl ?_; refine Ops.ibin ineq rfl rfl rfl rfl ?_; refine Ops.pickF rfl rfl rfl rfl ?_; refine Ops.move rfl rfl rfl ?_)
  refine Ops.splitP 21 rfl (fun h => absurd rfl h) (fun _ => ?_)
  (refine Ops.fldO rfl rfl rfl (by with_reducible first | exact fF0 | exact fF1 | exact fF2 | exact fR0 | exact fR1) rfl ?_; refine Ops.ld1A rfl rfl rfl rfl rfl (by with_reducible first | exact lInt | exact lNat | exact lBool | exact lInts) rfl ?_; refine Ops.lenF rfl rfl (by with_reducible first | exact sNat.und | exact sInts.und) (List.length_map ..) rfl ?_; refine Ops.fldO rfl rfl rfl (by with_reducible first | exact fF0 | exact fF1 | exact fF2 | exact fR0 | exact fR1) rfl ?_; refine Ops.ld1A rfl rfl rfl rfl rfl (by with_reducible first | exact lInt | exact lNat | exact lBool | exact lInts) rfl ?_; refine Ops.lenF rfl rfl (by with_reducible first | exact sNat.und | exact sInts.und) (List.length_map ..) rfl ?_; refine Ops.ibin ineq rfl rfl rfl rfl ?_; refine Ops.pickF rfl rfl rfl rfl ?_; refine Ops.nil (hK _ _ ?_); clear hK K; refine Fin.then ?_)
  refine St.condP rfl (fun h => absurd rfl h) (fun _ => ?_)
  (refine St.skip ?_; refine Fin.then ?_; refine St.seq ?_; refine St.seq ?_; refine St.regionK (fun K hK => ?_); refine Ops.assign rfl rfl rfl ?_; refine Ops.nil (hK _ _ ?_); clear hK K; refine Fin.then ?_; refine St.block ?_)
  refine St.loop (α := Nat) (fun k => k ≤ (limbs f.num).length)
    (fun k => [(2, .own 0), (3, .own 1), (5, .ct (intC k))]) (fun _ => [(1, .box 38 (frCs f)), (0, .box 38 (frCs f))]) (fun k => (limbs f.num).length - k) 0 (Nat.zero_le _) (by exact Entails.of rfl ⟨rfl, rfl, rfl, trivial⟩) ?_
  intro k hk
  dsimp only at hk ⊢
  (refine St.seq ?_; refine St.seq ?_; refine St.regionK (fun K hK => ?_); refine Ops.move rfl rfl rfl ?_; refine Ops.fldO rfl rfl rfl (by with_reducible first | exact fF0 | exact fF1 | exact fF2 | exact fR0 | exact fR1) rfl ?_; refine Ops.ld1A rfl rfl rfl rfl rfl (by with_reducible first | exact lInt | exact lNat | exact lBool | exact lInts) rfl ?_; refine Ops.lenF rfl rfl (by with_reducible first | exact sNat.und | exact sInts.und) (List.length_map ..) rfl ?_; refine Ops.ibin ilss rfl rfl rfl rfl ?_; refine Ops.nil (hK _ _ ?_); clear hK K; refine Fin.then ?_)
  refine St.condP rfl (fun h => ?_) (fun h => ?_)
  · (refine St.skip ?_; refine Fin.then ?_; refine St.seq ?_; refine St.block ?_; refine St.seq ?_)
    refine St.drawK (by with_reducible exact mixed) 11 (.p 0 (.p 2 (.p 5 (.p 7 (.f 1 (.p 3 (.f 4 (.f 6 (.p 8 (.f 9 (.p 10 .done))))))))))) (by kernel_rfl) (fun K hK => ?_)
    (refine Ops.fldO rfl rfl rfl (by with_reducible first | exact fF0 | exact fF1 | exact fF2 | exact fR0 | exact fR1) rfl ?_; refine Ops.move rfl rfl rfl ?_; refine Ops.fldO rfl rfl rfl (by with_reducible first | exact fF0 | exact fF1 | exact fF2 | exact fR0 | exact fR1) rfl ?_; refine Ops.move rfl rfl rfl ?_; refine Ops.ld1A rfl rfl rfl rfl rfl (by with_reducible first | exact lInt | exact lNat | exact lBool | exact lInts) rfl ?_; refine Ops.idxF rfl rfl rfl (by with_reducible first | exact sNat | exact sInts) (by omega) (ints_at (by omega) (by omega)) rfl ?_; refine Ops.ld1F rfl rfl rfl (by with_reducible first | exact lInt | exact lNat | exact lBool | exact lInts) rfl ?_; refine Ops.ld1A rfl rfl rfl rfl rfl (by with_reducible first | exact lInt | exact lNat | exact lBool | exact lInts) rfl ?_; refine Ops.idxF rfl rfl rfl (by with_reducible first | exact sNat | exact sInts) (by omega) (ints_at (by omega) (by omega)) rfl ?_; refine Ops.ld1F rfl rfl rfl (by with_reducible first | exact lInt | exact lNat | exact lBool | exact lInts) rfl ?_; refine Ops.ibin ineq rfl rfl rfl rfl ?_; refine Ops.nil (hK _ _ ?_); clear hK K; refine Fin.then ?_)
    refine St.condP rfl (fun h => absurd rfl h) (fun _ => ?_)
    (refine St.skip ?_; refine Fin.then ?_; refine St.regionK (fun K hK => ?_); refine Ops.move rfl rfl rfl ?_; refine Ops.ibin (iadd (by omega) (by omega)) rfl rfl rfl rfl ?_; refine Ops.assign rfl rfl rfl ?_; refine Ops.nil (hK _ _ ?_); clear hK K; refine Fin.thenN ?_)
    refine Fin.next (k + 1) (by omega) (by omega) (by exact Entails.of rfl ⟨rfl, rfl, by simp only [Int.natCast_add]; rfl, trivial⟩)
  · (refine St.exit ?_; refine Fin.then ?_; refine St.seq ?_; refine St.seq ?_; refine St.regionK (fun K hK => ?_); refine Ops.assign rfl rfl rfl ?_; refine Ops.nil (hK _ _ ?_); clear hK K; refine Fin.then ?_; refine St.block ?_)
    refine St.loop (α := Nat) (fun k => k ≤ (limbs f.den).length)
      (fun k => [(2, .own 0), (3, .own 1), (6, .ct (intC k))]) (fun _ => [(1, .box 38 (frCs f)), (0, .box 38 (frCs f))]) (fun k => (limbs f.den).length - k) 0 (Nat.zero_le _) (by exact Entails.of rfl ⟨rfl, rfl, rfl, trivial⟩) ?_
    intro k hk
    dsimp only at hk ⊢
    (refine St.seq ?_; refine St.seq ?_; refine St.regionK (fun K hK => ?_); refine Ops.move rfl rfl rfl ?_; refine Ops.fldO rfl rfl rfl (by with_reducible first | exact fF0 | exact fF1 | exact fF2 | exact fR0 | exact fR1) rfl ?_; refine Ops.ld1A rfl rfl rfl rfl rfl (by with_reducible first | exact lInt | exact lNat | exact lBool | exact lInts) rfl ?_; refine Ops.lenF rfl rfl (by with_reducible first | exact sNat.und | exact sInts.und) (List.length_map ..) rfl ?_; refine Ops.ibin ilss rfl rfl rfl rfl ?_; refine Ops.nil (hK _ _ ?_); clear hK K; refine Fin.then ?_)
    refine St.condP rfl (fun h => ?_) (fun h => ?_)
    · (refine St.skip ?_; refine Fin.then ?_; refine St.seq ?_; refine St.block ?_; refine St.seq ?_)
      refine St.drawK (by with_reducible exact mixed) 11 (.p 0 (.p 2 (.p 5 (.p 7 (.f 1 (.p 3 (.f 4 (.f 6 (.p 8 (.f 9 (.p 10 .done))))))))))) (by kernel_rfl) (fun K hK => ?_)
      (refine Ops.fldO rfl rfl rfl (by with_reducible first | exact fF0 | exact fF1 | exact fF2 | exact fR0 | exact fR1) rfl ?_; refine Ops.move rfl rfl rfl ?_; refine Ops.fldO rfl rfl rfl (by with_reducible first | exact fF0 | exact fF1 | exact fF2 | exact fR0 | exact fR1) rfl ?_; refine Ops.move rfl rfl rfl ?_; refine Ops.ld1A rfl rfl rfl rfl rfl (by with_reducible first | exact lInt | exact lNat | exact lBool | exact lInts) rfl ?_; refine Ops.idxF rfl rfl rfl (by with_reducible first | exact sNat | exact sInts) (by omega) (ints_at (by omega) (by omega)) rfl ?_; refine Ops.ld1F rfl rfl rfl (by with_reducible first | exact lInt | exact lNat | exact lBool | exact lInts) rfl ?_; refine Ops.ld1A rfl rfl rfl rfl rfl (by with_reducible first | exact lInt | exact lNat | exact lBool | exact lInts) rfl ?_; refine Ops.idxF rfl rfl rfl (by with_reducible first | exact sNat | exact sInts) (by omega) (ints_at (by omega) (by omega)) rfl ?_; refine Ops.ld1F rfl rfl rfl (by with_reducible first | exact lInt | exact lNat | exact lBool | exact lInts) rfl ?_; refine Ops.ibin ineq rfl rfl rfl rfl ?_; refine Ops.nil (hK _ _ ?_); clear hK K; refine Fin.then ?_)
      refine St.condP rfl (fun h => absurd rfl h) (fun _ => ?_)
      (refine St.skip ?_; refine Fin.then ?_; refine St.regionK (fun K hK => ?_); refine Ops.move rfl rfl rfl ?_; refine Ops.ibin (iadd (by omega) (by omega)) rfl rfl rfl rfl ?_; refine Ops.assign rfl rfl rfl ?_; refine Ops.nil (hK _ _ ?_); clear hK K; refine Fin.thenN ?_)
      refine Fin.next (k + 1) (by omega) (by omega) (by exact Entails.of rfl ⟨rfl, rfl, by simp only [Int.natCast_add]; rfl, trivial⟩)
    · (refine St.exit ?_; refine Fin.then ?_; refine St.seq ?_; refine St.regionK (fun K hK => ?_); refine Ops.assign rfl rfl rfl ?_; refine Ops.nil (hK _ _ ?_); clear hK K; refine Fin.then ?_; refine St.ret ?_)
      refine Fin.ret [_] rfl (AllRes.tmp rfl AllRes.nil) rfl rfl
end Go.Proofs.YtdhmbgogmoaofaaGreat
namespace Go.Proofs.YtdhmbgogmoaofaaGreat
open Go.Own
attribute [local irreducible] St Ops Go.Own.Fin Ok OkB OkN
theorem sBytes : SlcT Tryz.prog 22 5 1 1 (.int .u8 0) := SlcT.of Tryz.underlying22 (by kernel_rfl) rfl (by decide)
theorem lBytes : Ld1 Tryz.prog 22 := Ld1.of _ Tryz.underlying22 rfl
theorem lU8 : Ld1 Tryz.prog 5 := Ld1.of _ Tryz.underlying5 rfl
theorem uU8 : Tryz.prog.underlying 5 = some (.int .u8) := Tryz.underlying5
theorem uInt : Tryz.prog.underlying 3 = some (.int .i64) := Tryz.underlying3
theorem fC0 : fldInfo Tryz.prog 82 0 = some (0, some 1) := by kernel_rfl
theorem fC1 : fldInfo Tryz.prog 82 1 = some (1, some 1) := by kernel_rfl
theorem bCodes : bInfo Tryz.prog 82 = some (.agg #[.slice none 0 0, .int .i64 0], [(0, some 1), (1, some 1)]) := by kernel_rfl
abbrev bytesC (bs : List Int) : CT := .fr (sliceT 1 (bs.map fun b => [CT.ex (.int .u8 b)]))
abbrev codes (bs : List Int) (p : Nat) : List CT := [bytesC bs, intC p]
structure Bytes (bs : List Int) : Prop where
  lo : ∀ b ∈ bs, 0 ≤ b
  hi : ∀ b ∈ bs, b < 256
  len : bs.length ≤ 400
theorem bytes_at {bs : List Int} {j : Int} (h0 : 0 ≤ j) (h : j < (bs.length : Int)) : (bs.map fun b => [CT.ex (.int .u8 b)])[j.toNat]? = some [CT.ex (.int .u8 (bs.getD j.toNat 0))] := by
  have hl : j.toNat < bs.length := by omega
  rw [List.getElem?_map, List.getElem?_eq_getElem hl, List.getD_eq_getElem?_getD, List.getElem?_eq_getElem hl]; rfl
theorem Bytes.at {bs : List Int} (h : Bytes bs) (j : Nat) : 0 ≤ bs.getD j 0 ∧ bs.getD j 0 < 256 := by
  rw [List.getD_eq_getElem?_getD]
  cases e : bs[j]? with
  | none => simp
  | some b =>
    have := List.mem_of_getElem? e
    exact ⟨h.lo b this, h.hi b this⟩
theorem goNext : InGo Tryz.prog 16 := InGo.of Tryz.func16 rfl (by decide)
set_option maxHeartbeats 2000000 in
theorem Next_ok (bs : List Int) (p : Nat) (n : Int) (h1 : 1 ≤ n) (h2 : n ≤ 256) (hb : Bytes bs) :
    OkB Tryz.prog 16 82 (codes bs p) [intC n] (fun q : Int × Nat => 0 ≤ q.1 ∧ q.1 < n) (fun q => intC q.1) (fun q => codes bs q.2) := by
  have hlen := hb.len
  refine OkB.enter Tryz.func16 rfl _ Tryz.ntmps16 rfl ?_
  intro S w g
  (refine St.seq ?_; refine St.regionK (fun K hK => ?_); refine Ops.assign rfl rfl rfl ?_; refine Ops.nil (hK _ _ ?_); clear hK K; refine Fin.then ?_; refine St.seq ?_; refine St.seq ?_)
  refine St.drawK (by with_reducible exact mixed) 14 (.p 0 (.p 1 (.p 2 (.p 4 (.p 5 (.p 6 (.f 3 (.f 7 (.p 8 (.p 9 (.p 10 (.p 11 (.p 12 (.p 13 .done)))))))))))))) (by kernel_rfl) (fun K hK => ?_)
  (refine Ops.move rfl rfl rfl ?_; refine Ops.nilCheckO rfl rfl rfl rfl ?_; refine Ops.fldO rfl rfl rfl (by with_reducible first | exact fC0 | exact fC1 | exact fR0 | exact fR1) rfl ?_; refine Ops.move rfl rfl rfl ?_; refine Ops.nilCheckO rfl rfl rfl rfl ?_; refine Ops.fldO rfl rfl rfl (by with_reducible first | exact fC0 | exact fC1 | exact fR0 | exact fR1) rfl ?_; refine Ops.ld1A rfl rfl rfl rfl rfl (by with_reducible first | exact lBytes | exact lInt | exact lInts) rfl ?_; refine Ops.ld1A rfl rfl rfl rfl rfl (by with_reducible first | exact lBytes | exact lInt | exact lInts) rfl ?_; refine Ops.lenF rfl rfl (by with_reducible exact sBytes.und) (List.length_map ..) rfl ?_; refine Ops.ibin igeq rfl rfl rfl rfl ?_; refine Ops.move rfl rfl rfl ?_)
  refine Ops.splitP 16 rfl (fun h => ?_) (fun h => ?_)
  · (refine Ops.skip rfl rfl rfl ?_; refine Ops.skip rfl rfl rfl ?_; refine Ops.pickT rfl rfl rfl rfl ?_; refine Ops.nil (hK _ _ ?_); clear hK K; refine Fin.then ?_; refine St.condT rfl ?_; refine St.seq ?_; refine St.regionK (fun K hK => ?_); refine Ops.assign rfl rfl rfl ?_; refine Ops.nil (hK _ _ ?_); clear hK K; refine Fin.then ?_; refine St.ret ?_; refine Fin.thenRet ?_)
    refine Fin.retB (0, p) [_] rfl (AllRes.tmp rfl AllRes.nil) rfl rfl ⟨by show (0 : Int) ≤ 0; omega, by show (0 : Int) < n; omega⟩
  · (refine Ops.move rfl rfl rfl ?_; refine Ops.ibin ilss rfl rfl rfl rfl ?_; refine Ops.pickF rfl rfl rfl rfl ?_; refine Ops.nil (hK _ _ ?_); clear hK K; refine Fin.then ?_)
    refine St.condP rfl (fun h' => ?_) (fun h' => ?_)
    · exact absurd h' (by omega)
    · (refine St.skip ?_; refine Fin.then ?_; refine St.seq ?_)
      refine St.drawK (by with_reducible exact mixed) 12 (.p 0 (.p 1 (.p 2 (.p 4 (.p 5 (.p 6 (.f 3 (.f 7 (.p 8 (.f 9 (.p 10 (.p 11 .done)))))))))))) (by kernel_rfl) (fun K hK => ?_)
      (refine Ops.move rfl rfl rfl ?_; refine Ops.nilCheckO rfl rfl rfl rfl ?_; refine Ops.fldO rfl rfl rfl (by with_reducible first | exact fC0 | exact fC1 | exact fR0 | exact fR1) rfl ?_; refine Ops.move rfl rfl rfl ?_; refine Ops.nilCheckO rfl rfl rfl rfl ?_; refine Ops.fldO rfl rfl rfl (by with_reducible first | exact fC0 | exact fC1 | exact fR0 | exact fR1) rfl ?_; refine Ops.ld1A rfl rfl rfl rfl rfl (by with_reducible first | exact lBytes | exact lInt | exact lInts) rfl ?_; refine Ops.ld1A rfl rfl rfl rfl rfl (by with_reducible first | exact lBytes | exact lInt | exact lInts) rfl ?_; refine Ops.idxF rfl rfl rfl (by with_reducible exact sBytes) (by omega) (bytes_at (by omega) (by omega)) rfl ?_; refine Ops.ld1F rfl rfl rfl (by with_reducible exact lU8) rfl ?_)
      have hx := hb.at p
      generalize he : bs.getD p 0 = x at hx
      refine Ops.conv (q := x) rfl rfl (by with_reducible exact uU8) (by with_reducible exact uInt) (by rw [Int.toNat_natCast, he]; exact wrap_id (by omega) (by omega)) rfl ?_
      (refine Ops.assign rfl rfl rfl ?_; refine Ops.nil (hK _ _ ?_); clear hK K; refine Fin.then ?_; refine St.seq ?_; refine St.regionK (fun K hK => ?_); refine Ops.move rfl rfl rfl ?_; refine Ops.nilCheckO rfl rfl rfl rfl ?_; refine Ops.fldO rfl rfl rfl (by with_reducible first | exact fC0 | exact fC1 | exact fR0 | exact fR1) rfl ?_; refine Ops.ld1A rfl rfl rfl rfl rfl (by with_reducible first | exact lBytes | exact lInt | exact lInts) rfl ?_; refine Ops.ibin (iadd (by omega) (by omega)) rfl rfl rfl rfl ?_; refine Ops.nilCheckO rfl rfl rfl rfl ?_; refine Ops.fldO rfl rfl rfl (by with_reducible first | exact fC0 | exact fC1 | exact fR0 | exact fR1) rfl ?_; refine Ops.st1A rfl rfl rfl rfl rfl (by with_reducible exact zInt) (by simp [Ent.cs]) ?_; refine Ops.nil (hK _ _ ?_); clear hK K; refine Fin.then ?_; refine St.seq ?_; refine St.seq ?_; refine St.regionK (fun K hK => ?_); refine Ops.move rfl rfl rfl ?_; refine Ops.ibin igtr rfl rfl rfl rfl ?_; refine Ops.nil (hK _ _ ?_); clear hK K; refine Fin.then ?_)
      refine St.condP rfl (fun h' => ?_) (fun h' => ?_)
      · exact absurd h' (by omega)
      · (refine St.skip ?_; refine Fin.then ?_; refine St.seq ?_; refine St.regionK (fun K hK => ?_); refine Ops.move rfl rfl rfl ?_; refine Ops.move rfl rfl rfl ?_; refine Ops.ibin (irem (by omega) (by omega)) rfl rfl rfl rfl ?_; refine Ops.assign rfl rfl rfl ?_; refine Ops.nil (hK _ _ ?_); clear hK K; refine Fin.then ?_; refine St.ret ?_)
        refine Fin.retB (x % n, p + 1) [_] rfl (AllRes.tmp rfl AllRes.nil) rfl rfl ⟨Int.emod_nonneg _ (by omega), Int.emod_lt_of_pos _ (by omega)⟩
theorem goNew : InGo Tryz.prog 56 := InGo.of Tryz.func56 rfl (by decide)
theorem New_ok (bs : List Int) : OkN Tryz.prog 56 [bytesC bs, intC 400] 82 (codes (bs.take 400) 0) := by
  refine OkN.enter Tryz.func56 rfl _ Tryz.ntmps56 rfl ?_
  intro S w
  (refine St.seq ?_; refine St.regionK (fun K hK => ?_); refine Ops.assign rfl rfl rfl ?_; refine Ops.nil (hK _ _ ?_); clear hK K; refine Fin.then ?_; refine St.seq ?_; refine St.seq ?_; refine St.regionK (fun K hK => ?_); refine Ops.move rfl rfl rfl ?_; refine Ops.lenF rfl rfl (by with_reducible exact sBytes.und) (List.length_map ..) rfl ?_; refine Ops.move rfl rfl rfl ?_; refine Ops.ibin igtr rfl rfl rfl rfl ?_; refine Ops.nil (hK _ _ ?_); clear hK K; refine Fin.then ?_)
  refine St.condP rfl (fun h' => ?_) (fun h' => ?_)
  · (refine St.regionK (fun K hK => ?_); refine Ops.move rfl rfl rfl ?_; refine Ops.move rfl rfl rfl ?_)
    refine Ops.cutHi rfl rfl rfl (by with_reducible exact sBytes) (by omega) (by rw [List.length_map]; omega) rfl ?_
    rw [← List.map_take]
    (refine Ops.assign rfl rfl rfl ?_; refine Ops.nil (hK _ _ ?_); clear hK K; refine Fin.then ?_; refine St.seq ?_; refine St.regionK (fun K hK => ?_); refine Ops.move rfl rfl rfl ?_)
    refine Ops.build rfl (by with_reducible exact bCodes) rfl (.one rfl rfl rfl rfl .nil) rfl ?_
    (refine Ops.boxN 0 rfl rfl rfl rfl rfl rfl rfl ?_; refine Ops.assign rfl rfl rfl ?_; refine Ops.nil (hK _ _ ?_); clear hK K; refine Fin.then ?_; refine St.ret ?_)
    refine Fin.retN rfl rfl rfl rfl
  · (refine St.skip ?_; refine Fin.then ?_; refine St.seq ?_; refine St.regionK (fun K hK => ?_); refine Ops.move rfl rfl rfl ?_)
    refine Ops.build rfl (by with_reducible exact bCodes) rfl (.one rfl rfl rfl rfl .nil) rfl ?_
    (refine Ops.boxN 0 rfl rfl rfl rfl rfl rfl rfl ?_; refine Ops.assign rfl rfl rfl ?_; refine Ops.nil (hK _ _ ?_); clear hK K; refine Fin.then ?_; refine St.ret ?_)
    refine Fin.retN rfl rfl (by rw [List.take_of_length_le (by omega)]; rfl) rfl
theorem goRoll : InGo Tryz.prog 13 := InGo.of Tryz.func13 rfl (by decide)
theorem Roll_ok (bs : List Int) : OkN Tryz.prog 13 [bytesC bs] 82 (codes (bs.take 400) 0) := by
  refine OkN.enter Tryz.func13 rfl _ Tryz.ntmps13 rfl ?_
  intro S w
  (refine St.seq ?_; refine St.regionK (fun K hK => ?_); refine Ops.assign rfl rfl rfl ?_; refine Ops.nil (hK _ _ ?_); clear hK K; refine Fin.then ?_; refine St.seq ?_; refine St.regionK (fun K hK => ?_); refine Ops.move rfl rfl rfl ?_)
  refine Ops.callN 0 goNew (New_ok bs) rfl rfl rfl rfl rfl rfl ?_
  (refine Ops.assign rfl rfl rfl ?_; refine Ops.nil (hK _ _ ?_); clear hK K; refine Fin.then ?_; refine St.ret ?_)
  refine Fin.retN rfl rfl rfl rfl
theorem goPick : InGo Tryz.prog 27 := InGo.of Tryz.func27 rfl (by decide)
theorem Pick_ok (bs : List Int) (p : Nat) (xs : List Int) (h1 : 1 ≤ xs.length) (h2 : xs.length ≤ 256) (hb : Bytes bs) :
    OkB Tryz.prog 27 82 (codes bs p) [intsC xs] (fun q : Int × Nat => q.1 ∈ xs) (fun q => intC q.1) (fun q => codes bs q.2) := by
  refine OkB.enter Tryz.func27 rfl _ Tryz.ntmps27 rfl ?_
  intro S w g
  (refine St.seq ?_; refine St.regionK (fun K hK => ?_); refine Ops.assign rfl rfl rfl ?_; refine Ops.nil (hK _ _ ?_); clear hK K; refine Fin.then ?_; refine St.seq ?_; refine St.regionK (fun K hK => ?_); refine Ops.move rfl rfl rfl ?_; refine Ops.move rfl rfl rfl ?_; refine Ops.move rfl rfl rfl ?_; refine Ops.lenF rfl rfl (by with_reducible first | exact sNat.und | exact sInts.und) (List.length_map ..) rfl ?_)
  refine Ops.callB goNext (Next_ok bs p xs.length (by omega) (by omega) hb) rfl rfl rfl rfl rfl (fun q hq => ?_)
  obtain ⟨x, p'⟩ := q
  dsimp only at hq
  (refine Ops.idxF rfl rfl rfl (by with_reducible first | exact sNat | exact sInts) (by omega) (ints_at (by omega) (by omega)) rfl ?_; refine Ops.ld1F rfl rfl rfl (by with_reducible first | exact lInt | exact lNat | exact lBool | exact lInts) rfl ?_; refine Ops.assign rfl rfl rfl ?_; refine Ops.nil (hK _ _ ?_); clear hK K; refine Fin.then ?_; refine St.ret ?_)
  refine Fin.retB (xs.getD x.toNat 0, p') [_] rfl (AllRes.tmp rfl AllRes.nil) rfl rfl ?_
  show xs.getD x.toNat 0 ∈ xs
  have hl : x.toNat < xs.length := by omega
  rw [List.getD_eq_getElem?_getD, List.getElem?_eq_getElem hl]
  exact List.getElem_mem hl
end Go.Proofs.YtdhmbgogmoaofaaGreat
namespace Go.Proofs.YtdhmbgogmoaofaaGreat
open Go.Own
attribute [local irreducible] St Ops Go.Own.Fin Ok OkB OkN
theorem goBool : InGo Tryz.prog 24 := InGo.of Tryz.func24 rfl (by decide)
theorem Bool_ok (bs : List Int) (p : Nat) (n : Int) (h1 : 1 ≤ n) (h2 : n ≤ 256) (hb : Bytes bs) :
    OkB Tryz.prog 24 82 (codes bs p) [intC n] (fun _ : Bool × Nat => True) (fun q => boolC q.1) (fun q => codes bs q.2) := by
  refine OkB.enter Tryz.func24 rfl _ Tryz.ntmps24 rfl ?_
  intro S w g
  (refine St.seq ?_; refine St.regionK (fun K hK => ?_); refine Ops.assign rfl rfl rfl ?_; refine Ops.nil (hK _ _ ?_); clear hK K; refine Fin.then ?_; refine St.seq ?_; refine St.regionK (fun K hK => ?_); refine Ops.move rfl rfl rfl ?_; refine Ops.move rfl rfl rfl ?_)
  refine Ops.callB goNext (Next_ok bs p n h1 h2 hb) rfl rfl rfl rfl rfl (fun q hq => ?_)
  obtain ⟨x, p'⟩ := q
  dsimp only at hq
  (refine Ops.move rfl rfl rfl ?_; refine Ops.ibin (isub (by omega) (by omega)) rfl rfl rfl rfl ?_; refine Ops.ibin ieql rfl rfl rfl rfl ?_; refine Ops.assign rfl rfl rfl ?_; refine Ops.nil (hK _ _ ?_); clear hK K; refine Fin.then ?_; refine St.ret ?_)
  refine Fin.retB (decide (x = n - 1), p') [_] rfl (AllRes.tmp rfl AllRes.nil) rfl rfl trivial
end Go.Proofs.YtdhmbgogmoaofaaGreat
namespace Go.Proofs.YtdhmbgogmoaofaaGreat
open Go.Own Go.Limbs
attribute [local irreducible] St Ops Go.Own.Fin Ok OkB OkN wpA
theorem zIntsD : (Tryz.prog.info? 24).map (·.size) = some 1 := by kernel_rfl
theorem bRow : bInfo Tryz.prog 57 = some (.agg #[.slice none 0 0, .int .i64 0], [(0, some 1), (1, some 1)]) := by kernel_rfl
def rws (rs : List Rw) : List CT := (rs.map rwCs).flatten
theorem rws_len (rs : List Rw) : (rws rs).length = rs.length * 2 := by
  unfold rws
  rw [flatten_length (k := 2) (fun e he => by obtain ⟨m, _, rfl⟩ := List.mem_map.mp he; rfl)]; simp
theorem rws_snoc (rs : List Rw) (r : Rw) : rws (rs ++ [r]) = rws rs ++ rwCs r := by simp [rws]
theorem rws_frozen (e : Nat) (rs : List Rw) : (Ent.row e 2 (rws rs)).frozen (sliceT 2 (rs.map rwCs)) :=
  ⟨_, rfl, fun e he => by obtain ⟨m, _, rfl⟩ := List.mem_map.mp he; rfl, by decide, rfl⟩
structure RowIn (n : Int) (r : Rw) : Prop where
  len : (r.cs.length : Int) ≤ n
  lo : ∀ c ∈ r.cs, -3 ≤ c ∧ c ≤ 5
  b1 : -4503599627370496 ≤ r.b
  b2 : r.b ≤ 4503599627370496
structure Lp where
  n : Int
  rs : List Rw
  c : List Int
  p : Nat
structure LpIn (q : Lp) : Prop where
  n0 : 0 ≤ q.n
  n1 : q.n ≤ 4
  rl : q.rs.length ≤ 6
  rs : ∀ r ∈ q.rs, RowIn q.n r
  cl : (q.c.length : Int) ≤ q.n
  c : ∀ c ∈ q.c, -2 ≤ c ∧ c ≤ 4
theorem mem_snoc {α : Type} {P : α → Prop} {xs : List α} {x : α} (h : ∀ y ∈ xs, P y) (hx : P x) : ∀ y ∈ xs ++ [x], P y := fun y hy => by
  rcases List.mem_append.1 hy with h1 | h1
  · exact h y h1
  · rcases List.mem_singleton.1 h1 with rfl; exact hx
theorem goProgram : InGo Tryz.prog 14 := InGo.of Tryz.func14 rfl (by decide)
end Go.Proofs.YtdhmbgogmoaofaaGreat
namespace Go.Proofs.YtdhmbgogmoaofaaGreat
open Go.Own Go.Limbs
attribute [local irreducible] St Ops Go.Own.Fin Ok OkB OkN OkM wpA
theorem gowhole34 : InGo Tryz.prog 37 := InGo.of Tryz.func37 rfl (by decide)
set_option maxHeartbeats 2000000 in
theorem whole34_ok (n : Int) (h1 : -9223372036854775808 ≤ n) (h2 : n ≤ 9223372036854775807) : Ok Tryz.prog 37 [intC n] (ratC (n : Rat)) := by
  have hF := rFrom_ok n 1 h1 h2 (by decide) (by decide) (by decide)
  rw [divInt_one] at hF
  refine Ok.enter Tryz.func37 rfl _ Tryz.ntmps37 rfl ?_
  intro S w
  (refine St.seq ?_; refine St.regionK (fun K hK => ?_); refine Ops.alloc 0 rfl rfl (by with_reducible first | exact zvFrac) rfl rfl rfl ?_; refine Ops.nil (hK _ _ ?_); clear hK K; refine Fin.then ?_; refine St.seq ?_; refine St.regionK (fun K hK => ?_); refine Ops.move rfl rfl rfl ?_)
  refine Ops.call gorFrom hF rfl rfl rfl rfl ?_
  (refine Ops.move rfl rfl rfl ?_; refine Ops.extract rfl rfl rfl rfl ?_; refine Ops.extract rfl rfl rfl rfl ?_; refine Ops.alloc 1 rfl rfl (by with_reducible first | exact zvFrac) rfl rfl rfl ?_; refine Ops.stWN 3 rfl rfl rfl rfl rfl (by with_reducible exact szFrac) rfl rfl ?_; refine Ops.assign rfl rfl rfl ?_; refine Ops.nil (hK _ _ ?_); clear hK K; refine Fin.then ?_; refine St.seq ?_; refine St.regionK (fun K hK => ?_); refine Ops.ldNO (n := 3) rfl rfl rfl rfl rfl (by with_reducible exact lFrac) rfl ?_; refine Ops.stWN 3 rfl rfl rfl rfl rfl (by with_reducible exact szFrac) rfl rfl ?_; refine Ops.nil (hK _ _ ?_); clear hK K; refine Fin.then ?_; refine St.ret ?_)
  refine Fin.ret [_] rfl (AllRes.cellN (n := 3) rfl rfl (by with_reducible exact lFrac) rfl AllRes.nil) rfl rfl
def aw1 : List Rw := [⟨[1, 1], 4⟩, ⟨[1], 3⟩]
def aw2 : List Rw := [⟨[-1], -5⟩, ⟨[1], 3⟩]
def awX : List Fr := [ofQ (3 : Int), ofQ (1 : Int)]
theorem aw_lp1 : LpOk 2 aw1 [2, 1] := by
  obtain ⟨N, h, hL⟩ := lp_of (n := 2) (rs := aw1) (c := [2, 1]) (by decide) (by decide)
  rwa [show N = 2 by omega] at hL
theorem aw_lp2 : LpOk 1 aw2 [] := by
  obtain ⟨N, h, hL⟩ := lp_of (n := 1) (rs := aw2) (c := []) (by decide) (by decide)
  rwa [show N = 1 by omega] at hL
theorem aw_F1 : Go.Proofs.YtdhmbgogmoaofaaGreat.Feas 2 aw1 1 (fun j => if j = 0 then 3 else 1) := ⟨by decide, by decide, by decide⟩
theorem aw_D1 : Go.Proofs.YtdhmbgogmoaofaaGreat.Dual 2 aw1 [2, 1] 1 (fun _ => 1) := ⟨by decide, by decide, by decide⟩
theorem aw_R2 : Go.Proofs.YtdhmbgogmoaofaaGreat.Refu 1 aw2 1 (fun _ => 1) := ⟨by decide, by decide, by decide, by decide⟩
theorem aw_Max : Ok Tryz.prog 26 [intC 2, rowsC aw1, intsC [2, 1]] (.fr (tupT [fracC (ofQ (7 : Int)), boolC true, intC 0])) := by
  obtain ⟨T, E, F, s, R, hs⟩ := lp_sol aw_lp1
  have h := Maximum_of 2 aw1 [2, 1] _ 0 (Solve_ok 2 aw1 [2, 1] aw_lp1 (by decide) (by decide) R)
  obtain ⟨h1, h2⟩ := sol_opt hs aw_F1 aw_D1 (v := 7) (by decide) (by decide)
  rw [h2, h1] at h
  exact h
theorem aw_Fea : Ok Tryz.prog 34 [intC 1, rowsC aw2] (.fr (tupT [boolC false, intC 0])) := by
  obtain ⟨T, E, F, s, R, hs⟩ := lp_sol aw_lp2
  have h := Feasible_of 1 aw2 _ 0 (Solve_ok 1 aw2 [] aw_lp2 (by decide) (by decide) R)
  have h1 := sol_emp hs aw_R2
  rw [h1] at h
  exact h
theorem aw_f6 : ∀ f ∈ awX, F6 f := by
  intro f hf
  rcases List.mem_cons.1 hf with h | h
  · subst h; exact ⟨by decide +kernel, by decide +kernel, by decide +kernel, by decide +kernel⟩
  · rw [List.mem_singleton.1 h]; exact ⟨by decide +kernel, by decide +kernel, by decide +kernel, by decide +kernel⟩
theorem aw_Sat : Ok Tryz.prog 20 [intC 2, rowsC aw1, fracsC awX] (boolC true) := by
  have h := Satisfies_gen 2 aw1 awX (by decide) (by decide) (by decide) (fun f hf => (aw_f6 f hf).vf) (fun _ _ => sfit6 2 aw1 awX (by decide) (by decide) aw_f6)
  rwa [show satB 2 aw1 awX = true by decide +kernel] at h
theorem goawake34 : InGo Tryz.prog 11 := InGo.of Tryz.func11 rfl (by decide)
set_option maxHeartbeats 4000000 in
theorem awake34_ok : Ok Tryz.prog 11 [] (boolC true) := by
  have hM := aw_Max
  have hF := aw_Fea
  have hS := aw_Sat
  have hV := LValid_ok 2 aw1 (by decide) (by decide)
  rw [show validR 2 aw1 = true by decide] at hV
  have hE := Equal_refl (ofQ (7 : Int)) (by decide +kernel) (by decide +kernel)
  have w1 := whole34_ok 1 (by decide) (by decide)
  have w3 := whole34_ok 3 (by decide) (by decide)
  have w7 : Ok Tryz.prog 37 [intC 7] (fracC (ofQ (7 : Int))) := whole34_ok 7 (by decide) (by decide)
  generalize h7 : ofQ (7 : Int) = q7 at hM hE w7
  refine Ok.enter Tryz.func11 rfl _ Tryz.ntmps11 rfl ?_
  intro S w
  (refine St.seq ?_; refine St.regionK (fun K hK => ?_); refine Ops.assign rfl rfl rfl ?_; refine Ops.nil (hK _ _ ?_); clear hK K; refine Fin.then ?_; refine St.seq ?_; refine St.regionK (fun K hK => ?_))
  refine Ops.lit (m := 2) (cs := [intC 1, intC 1]) rfl rfl (by with_reducible exact sInts) (.one rfl rfl rfl rfl (.one rfl rfl rfl rfl .nil)) (by decide) rfl ?_
  refine Ops.build rfl (by with_reducible exact bRow) rfl (.one rfl rfl rfl rfl (.one rfl rfl rfl rfl .nil)) rfl ?_
  refine Ops.lit1 rfl rfl (by with_reducible exact sInts) rfl rfl rfl ?_
  refine Ops.build rfl (by with_reducible exact bRow) rfl (.one rfl rfl rfl rfl (.one rfl rfl rfl rfl .nil)) rfl ?_
  refine Ops.lit (m := 2) (n := 2) (cs := rwCs ⟨[1, 1], 4⟩ ++ rwCs ⟨[1], 3⟩) rfl rfl (by with_reducible exact sRows) (.agg rfl rfl rfl rfl (.agg rfl rfl rfl rfl .nil)) (by decide) rfl ?_
  refine Ops.assign rfl rfl rfl ?_
  refine Ops.nil (hK _ _ ?_)
  clear hK K
  refine Fin.keep [(1, .ct (rowsC aw1))] ⟨rfl, trivial⟩ ?_
  (refine Fin.then ?_; refine St.seq ?_; refine St.regionK (fun K hK => ?_); refine Ops.move rfl rfl rfl ?_)
  refine Ops.lit (m := 2) (cs := [intC 2, intC 1]) rfl rfl (by with_reducible exact sInts) (.one rfl rfl rfl rfl (.one rfl rfl rfl rfl .nil)) (by decide) rfl ?_
  refine Ops.call goMaximum hM rfl rfl rfl rfl ?_
  (refine Ops.move rfl rfl rfl ?_; refine Ops.extract rfl rfl rfl rfl ?_; refine Ops.extract rfl rfl rfl rfl ?_; refine Ops.extract rfl rfl rfl rfl ?_; refine Ops.alloc 0 rfl rfl (by with_reducible first | exact zvFrac) rfl rfl rfl ?_; refine Ops.stWN 3 rfl rfl rfl rfl rfl (by with_reducible exact szFrac) rfl rfl ?_; refine Ops.assign rfl rfl rfl ?_; refine Ops.assign rfl rfl rfl ?_; refine Ops.nil (hK _ _ ?_); clear hK K; refine Fin.then ?_; refine St.seq ?_; refine St.regionK (fun K hK => ?_))
  refine Ops.lit1 rfl rfl (by with_reducible exact sInts) rfl rfl rfl ?_
  refine Ops.build rfl (by with_reducible exact bRow) rfl (.one rfl rfl rfl rfl (.one rfl rfl rfl rfl .nil)) rfl ?_
  refine Ops.lit1 rfl rfl (by with_reducible exact sInts) rfl rfl rfl ?_
  refine Ops.build rfl (by with_reducible exact bRow) rfl (.one rfl rfl rfl rfl (.one rfl rfl rfl rfl .nil)) rfl ?_
  refine Ops.lit (m := 2) (n := 2) (cs := rwCs ⟨[-1], -5⟩ ++ rwCs ⟨[1], 3⟩) rfl rfl (by with_reducible exact sRows) (.agg rfl rfl rfl rfl (.agg rfl rfl rfl rfl .nil)) (by decide) rfl ?_
  refine Ops.call goFeasible hF rfl rfl rfl rfl ?_
  (refine Ops.move rfl rfl rfl ?_; refine Ops.extract rfl rfl rfl rfl ?_; refine Ops.extract rfl rfl rfl rfl ?_; refine Ops.assign rfl rfl rfl ?_; refine Ops.assign rfl rfl rfl ?_; refine Ops.nil (hK _ _ ?_); clear hK K; refine Fin.then ?_; refine St.seq ?_)
  refine St.drawK (by with_reducible exact mixed) 30 (.p 0 (.p 1 (.p 2 (.p 3 (.p 4 (.p 5 (.f 6 (.m 7 (.m 8 (.p 9 (.p 10 (.p 11 (.p 12 (.p 13 (.p 14 (.p 15 (.p 16 (.p 17 (.p 18 (.p 19 (.m 20 (.m 21 (.m 22 (.m 23 (.p 24 (.p 25 (.p 26 (.m 27 (.p 28 (.p 29 .done)))))))))))))))))))))))))))))) (by kernel_rfl) (fun K hK => ?_)
  (refine Ops.move rfl rfl rfl ?_; refine Ops.move rfl rfl rfl ?_; refine Ops.move rfl rfl rfl ?_; refine Ops.ibin ieql rfl rfl rfl rfl ?_; refine Ops.pickT rfl rfl rfl rfl ?_; refine Ops.move rfl rfl rfl ?_; refine Ops.ldNO (n := 3) rfl rfl rfl rfl rfl (by with_reducible exact lFrac) rfl ?_)
  refine Ops.call gowhole34 w7 rfl rfl rfl rfl ?_
  skip
  refine Ops.call goEqual hE rfl rfl rfl rfl ?_
  (refine Ops.pickT rfl rfl rfl rfl ?_; refine Ops.move rfl rfl rfl ?_; refine Ops.move rfl rfl rfl ?_; refine Ops.inot rfl rfl rfl ?_; refine Ops.pickT rfl rfl rfl rfl ?_; refine Ops.move rfl rfl rfl ?_; refine Ops.move rfl rfl rfl ?_; refine Ops.ibin ieql rfl rfl rfl rfl ?_; refine Ops.pickT rfl rfl rfl rfl ?_; refine Ops.move rfl rfl rfl ?_; refine Ops.move rfl rfl rfl ?_)
  refine Ops.call gowhole34 w3 rfl rfl rfl rfl ?_
  refine Ops.call gowhole34 w1 rfl rfl rfl rfl ?_
  refine Ops.lit (m := 2) (n := 3) (cs := frCs (ofQ (3 : Int)) ++ frCs (ofQ (1 : Int))) rfl rfl (by with_reducible exact sFracs) (.agg rfl rfl rfl rfl (.agg rfl rfl rfl rfl .nil)) (by decide) rfl ?_
  refine Ops.call goSatisfies hS rfl rfl rfl rfl ?_
  (refine Ops.pickT rfl rfl rfl rfl ?_; refine Ops.move rfl rfl rfl ?_; refine Ops.move rfl rfl rfl ?_)
  refine Ops.call goLValid hV rfl rfl rfl rfl ?_
  (refine Ops.pickT rfl rfl rfl rfl ?_; refine Ops.assign rfl rfl rfl ?_; refine Ops.nil (hK _ _ ?_); clear hK K; refine Fin.then ?_; refine St.ret ?_)
  refine Fin.ret [_] rfl (AllRes.tmp rfl AllRes.nil) rfl rfl
end Go.Proofs.YtdhmbgogmoaofaaGreat
namespace Go.Proofs.YtdhmbgogmoaofaaGreat
open Go.Own Go.Limbs
attribute [local irreducible] St Ops Go.Own.Fin Ok OkB OkN OkM wpA
theorem okc_in {n : Int} {c : List Int} (cl : (c.length : Int) ≤ n) (h : ∀ y ∈ c, -1000 ≤ y ∧ y ≤ 1000) : okCoeffs n c = true := by
  have hc : c.any badC = false := by
    rw [List.any_eq_false]
    intro y hy
    have := h y hy
    unfold badC
    simp only [Bool.or_eq_true, decide_eq_true_eq]
    omega
  unfold okCoeffs
  rw [hc, decide_eq_true cl]
  decide
theorem valid_dice {n : Int} {rs : List Rw} (h0 : 0 ≤ n) (h1 : n ≤ 4) (hl : rs.length ≤ 64) (h : ∀ r ∈ rs, RowIn n r) : validR n rs = true := by
  unfold validR
  simp only [Bool.and_eq_true, decide_eq_true_eq, Bool.not_eq_true']
  refine ⟨⟨⟨h0, by omega⟩, by omega⟩, ?_⟩
  rw [List.any_eq_false]
  intro r hr
  obtain ⟨a1, a2, a3, a4⟩ := h r hr
  unfold badR
  rw [okc_in a1 (fun y hy => by have := a2 y hy; omega), decide_eq_false (show ¬ r.b < -4503599627370496 by omega), decide_eq_false (show ¬ 4503599627370496 < r.b by omega)]
  decide
theorem solve_ex {n : Int} {rs : List Rw} {c : List Int} (hv : validR n rs = true) (hc : okCoeffs n c = true) : ∃ O, Sol n.toNat rs c O ∧ Ok Tryz.prog 22 [intC n, rowsC rs, intsC c] (.fr (tupT [ocC O, intC 0])) := by
  obtain ⟨N, rfl, hL⟩ := lp_of hv hc
  obtain ⟨T, E, F, s, R, hs⟩ := lp_sol hL
  rw [Int.toNat_natCast]
  exact ⟨_, hs, Solve_ok N rs c hL hv hc R⟩
theorem Kt6 {m : Nat} (h : m ≤ 6) : Kt m < 1073741824 ^ 9 := by
  have : m = 0 ∨ m = 1 ∨ m = 2 ∨ m = 3 ∨ m = 4 ∨ m = 5 ∨ m = 6 := by omega
  rcases this with rfl | rfl | rfl | rfl | rfl | rfl | rfl <;> decide +kernel
theorem sol_sz {n : Nat} {rs : List Rw} {c : List Int} {O : Oc} (h : Sol n rs c O) (hl : rs.length ≤ 6) (hk : O.kind = 1) : ∃ q : Rat, O.value = ofQ q ∧ (limbs (ofQ q).num).length ≤ 9 ∧ (limbs (ofQ q).den).length ≤ 9 := by
  cases h with
  | opt D X Y val hX hv hY hw b1 b2 b3 b4 =>
    have hD := hX.den
    obtain ⟨h1, h2⟩ := mk_le val D.natAbs (by omega)
    have := Kt6 hl
    exact ⟨shq val D, rfl, limbs_length_le (by unfold shq; omega), limbs_length_le (by unfold shq; omega)⟩
  | unb => exact absurd (show (2 : Int) = 1 from hk) (by decide)
  | emp => exact absurd (show (3 : Int) = 1 from hk) (by decide)
end Go.Proofs.YtdhmbgogmoaofaaGreat
namespace Go.Proofs.YtdhmbgogmoaofaaGreat
open Go.Own Go.Limbs Go.Det
def Imp (rs rs' : List Rw) : Prop := ∀ r' ∈ rs', ∃ r ∈ rs, r.cs = r'.cs ∧ r.b ≤ r'.b
theorem Imp.row {rs rs' : List Rw} (h : Imp rs rs') {i : Nat} (hi : i < rs'.length) : ∃ k, k < rs.length ∧ (∀ j, ca rs' i j = ca rs k j) ∧ cb rs k ≤ cb rs' i := by
  obtain ⟨r, hr, e, hb⟩ := h _ (getD_mem (z := rw0) hi)
  obtain ⟨k, hk, rfl⟩ := List.getElem_of_mem hr
  have : rs.getD k rw0 = rs[k] := by simp [List.getD_eq_getElem?_getD, List.getElem?_eq_getElem hk]
  refine ⟨k, hk, fun j => ?_, ?_⟩
  · unfold ca; rw [this, e]
  · unfold cb; rw [this]; exact hb
theorem Feas.imp {n : Nat} {rs rs' : List Rw} {D : Int} {X : Nat → Int} (h : Feas n rs D X) (hi : Imp rs rs') : Feas n rs' D X :=
  ⟨h.den, h.nn, fun i hl => by
    obtain ⟨k, hk, e, hb⟩ := hi.row hl
    have h1 := h.row k hk
    rw [sm_congr (g := fun j => ca rs k j * X j) fun j _ => by rw [e j]]
    exact Int.le_trans h1 (Int.mul_le_mul_of_nonneg_left hb (Int.le_of_lt h.den))⟩
def CovR (rs rs' : List Rw) : Prop := ∀ r' ∈ rs', ∃ r ∈ rs, r.cs = r'.cs
theorem CovR.row {rs rs' : List Rw} (h : CovR rs rs') {i : Nat} (hi : i < rs'.length) : ∃ k, k < rs.length ∧ ∀ j, ca rs' i j = ca rs k j := by
  obtain ⟨r, hr, e⟩ := h _ (getD_mem (z := rw0) hi)
  obtain ⟨k, hk, rfl⟩ := List.getElem_of_mem hr
  have : rs.getD k rw0 = rs[k] := by simp [List.getD_eq_getElem?_getD, List.getElem?_eq_getElem hk]
  exact ⟨k, hk, fun j => by unfold ca; rw [this, e]⟩
theorem Imp.cov {rs rs' : List Rw} (h : Imp rs rs') : CovR rs rs' := fun r hr => by
  obtain ⟨a, b, c, _⟩ := h r hr
  exact ⟨a, b, c⟩
theorem Ray.cov {n : Nat} {rs rs' : List Rw} {c : List Int} {D : Int} {Z : Nat → Int} (h : Ray n rs c D Z) (hi : CovR rs rs') : Ray n rs' c D Z :=
  ⟨h.den, h.nn, fun i hl => by
    obtain ⟨k, hk, e⟩ := hi.row hl
    rw [sm_congr (g := fun j => ca rs k j * Z j) fun j _ => by rw [e j]]
    exact h.row k hk, h.goal⟩
theorem sol_keep {n : Nat} {rs rs' : List Rw} {c : List Int} {O O' : Oc} (h : Sol n rs c O) (h' : Sol n rs' c O') (hi : Imp rs rs') (hc : CovR rs' rs) (k1 : O.kind = 1) : O'.kind = 1 := by
  cases h with
  | opt D X Y val hX hv hY hw b1 b2 b3 b4 =>
    cases h' with
    | opt => rfl
    | unb D' X' Z hX' hZ => exact (no_ray (hZ.cov hc) hY).elim
    | emp D' Y' hY' => exact (no_refu (hX.imp hi) hY').elim
  | unb => exact absurd (show (2 : Int) = 1 from k1) (by decide)
  | emp => exact absurd (show (3 : Int) = 1 from k1) (by decide)
theorem sol_mono {n : Nat} {rs rs' : List Rw} {c : List Int} {O O' : Oc} (h : Sol n rs c O) (h' : Sol n rs' c O') (hi : Imp rs rs') (k1 : O.kind = 1) (k2 : O'.kind = 1) :
    ∃ q q' : Rat, O.value = ofQ q ∧ O'.value = ofQ q' ∧ q ≤ q' := by
  cases h with
  | opt D X Y val hX hv hY hw b1 b2 b3 b4 =>
    cases h' with
    | opt D' X' Y' val' hX' hv' hY' hw' =>
      refine ⟨_, _, rfl, rfl, ?_⟩
      have w := weak (hX.imp hi) hY'
      rw [hw', hv] at w
      have d1 := hX.den
      have d2 := hX'.den
      unfold shq
      refine mkR_le (by omega) (by omega) ?_
      rw [show ((D'.natAbs : Nat) : Int) = D' by omega, show ((D.natAbs : Nat) : Int) = D by omega, Int.mul_comm val, Int.mul_comm val']
      exact w
    | unb => exact absurd (show (2 : Int) = 1 from k2) (by decide)
    | emp => exact absurd (show (3 : Int) = 1 from k2) (by decide)
  | unb => exact absurd (show (2 : Int) = 1 from k1) (by decide)
  | emp => exact absurd (show (3 : Int) = 1 from k1) (by decide)
theorem Imp.of_sub {rs rs' : List Rw} (h : ∀ r ∈ rs', r ∈ rs) : Imp rs rs' := fun r hr => ⟨r, h r hr, rfl, Int.le_refl _⟩
theorem sol_perm {n : Nat} {rs rs' : List Rw} {c : List Int} {O O' : Oc} (h : Sol n rs c O) (h' : Sol n rs' c O') (hp : ∀ r, r ∈ rs' ↔ r ∈ rs) :
    (O'.kind = 1 ↔ O.kind = 1) ∧ (O.kind = 1 → O'.value = O.value) := by
  have i1 : Imp rs rs' := Imp.of_sub fun r hr => (hp r).1 hr
  have i2 : Imp rs' rs := Imp.of_sub fun r hr => (hp r).2 hr
  have k1 := sol_keep h h' i1 i2.cov
  refine ⟨⟨sol_keep h' h i2 i1.cov, k1⟩, fun hk => ?_⟩
  obtain ⟨q, q', e1, e2, l1⟩ := sol_mono h h' i1 hk (k1 hk)
  obtain ⟨r', r, e3, e4, l2⟩ := sol_mono h' h i2 (k1 hk) hk
  have f1 : r = q := by have := congrArg qv (e4.symm.trans e1); rwa [qv_ofQ, qv_ofQ] at this
  have f2 : r' = q' := by have := congrArg qv (e3.symm.trans e2); rwa [qv_ofQ, qv_ofQ] at this
  subst f1 f2
  rw [e1, e2, Rat.le_antisymm l1 l2]
end Go.Proofs.YtdhmbgogmoaofaaGreat
namespace Go.Proofs.YtdhmbgogmoaofaaGreat
open Go.Own Go.Limbs Go.Det
theorem cmpQ_neg {p q : Rat} : cmpQ p q < 0 ↔ p < q := by
  rw [Rat.lt_iff]
  unfold cmpQ
  rw [Int.sign_neg_iff]
  omega
end Go.Proofs.YtdhmbgogmoaofaaGreat
