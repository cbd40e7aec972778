/-
  Walk: routescopelaw35.FarkasTrue returns true.
-/
import Derived.Test.YtgpkpmhdfcopgaaE2
import Derived.Test.YtgpkpmhdfcopgaaD3
import Derived.Test.YtgpkpmhdfcopgaaL1
namespace Go.Proofs.Ytgpkpmhdfcopgaa
open Go.Own Go.Limbs
attribute [local irreducible] St Ops Go.Own.Fin Ok OkB OkN wpA tf

theorem valid_in {n : Int} {rs : List Rw} (h0 : 0 ≤ n) (h1 : n ≤ 4) (hl : rs.length ≤ 6) (h : ∀ r ∈ rs, RowIn n r) : validR n rs = true := by
  unfold validR
  simp only [Bool.and_eq_true, decide_eq_true_eq, Bool.not_eq_true']
  refine ⟨⟨⟨h0, by omega⟩, by omega⟩, ?_⟩
  rw [List.any_eq_false]
  intro r hr
  obtain ⟨a1, a2, a3, a4⟩ := h r hr
  have hc : r.cs.any badC = false := by
    rw [List.any_eq_false]
    intro c hc
    have := a2 c hc
    unfold badC
    simp only [Bool.or_eq_true, decide_eq_true_eq]
    omega
  unfold badR okCoeffs
  rw [hc, decide_eq_true a1, decide_eq_false (show ¬ r.b < -4503599627370496 by omega), decide_eq_false (show ¬ 4503599627370496 < r.b by omega)]
  decide

set_option maxHeartbeats 8000000 in
theorem FarkasTrue_ok (bs : List Int) (hb : ∀ b ∈ bs, 0 ≤ b ∧ b < 256) : Ok Try.prog 3 [bytesC bs] (boolC true) := by
  refine Ok.enter Try.func3 rfl _ Try.ntmps3 rfl ?_
  intro S w
  have hB : Bytes (bs.take 400) := ⟨fun b h => (hb b (List.mem_of_mem_take h)).1, fun b h => (hb b (List.mem_of_mem_take h)).2, by simp; omega⟩
  have hRoll := Roll_ok bs
  generalize bs.take 400 = B0 at hB hRoll
  (refine St.seq ?_; refine St.regionK (fun K hK => ?_); refine Ops.assign rfl rfl rfl ?_; refine Ops.nil (hK _ _ ?_); clear hK K; refine Fin.then ?_; refine St.seq ?_; refine St.seq ?_; refine St.regionK (fun K hK => ?_))
  refine Ops.call goawake awake_ok rfl rfl rfl rfl ?_
  (refine Ops.inot rfl rfl rfl ?_; refine Ops.nil (hK _ _ ?_); clear hK K; refine Fin.then ?_; refine St.condF rfl ?_; refine St.skip ?_; refine Fin.then ?_; refine St.seq ?_; refine St.regionK (fun K hK => ?_); refine Ops.move rfl rfl rfl ?_)
  refine Ops.callN 0 goRoll hRoll rfl rfl rfl rfl rfl rfl ?_
  (refine Ops.assign rfl rfl rfl ?_; refine Ops.nil (hK _ _ ?_); clear hK K; refine Fin.then ?_; refine St.seq ?_; refine St.regionK (fun K hK => ?_); refine Ops.move rfl rfl rfl ?_)
  refine Ops.callB goProgram (Program_ok B0 0 hB) rfl rfl rfl rfl rfl (fun q hq => ?_)
  obtain ⟨n, rs, c, p1⟩ := q
  obtain ⟨n0, n1, rl, hrs, cl, hc⟩ := hq
  dsimp only at n0 n1 rl hrs cl hc ⊢
  have hv := valid_in n0 n1 rl hrs
  have hb' : ∀ r ∈ rs, r.b.natAbs ≤ 4503599627370496 := fun r hr => by have := (hrs r hr).b1; have := (hrs r hr).b2; omega
  have hc' : ∀ y ∈ c, y.natAbs ≤ 9007199254740992 := fun y hy => by have := hc y hy; omega
  have hc2 : ∀ y ∈ c, y.natAbs ≤ 100 := fun y hy => by have := hc y hy; omega
  obtain ⟨N, rfl⟩ := Int.eq_ofNat_of_zero_le n0
  (refine Ops.move rfl rfl rfl ?_; refine Ops.extract rfl rfl rfl rfl ?_; refine Ops.extract rfl rfl rfl rfl ?_; refine Ops.extract rfl rfl rfl rfl ?_; refine Ops.assign rfl rfl rfl ?_; refine Ops.assign rfl rfl rfl ?_; refine Ops.assign rfl rfl rfl ?_; refine Ops.nil (hK _ _ ?_); clear hK K; refine Fin.then ?_; refine St.seq ?_; refine St.regionK (fun K hK => ?_); refine Ops.move rfl rfl rfl ?_; refine Ops.move rfl rfl rfl ?_; refine Ops.lenF rfl rfl (by with_reducible first | exact sFracs.und | exact sRows.und) (List.length_map ..) rfl ?_)
  refine Ops.callB goFractions (Fractions_ok B0 p1 rs.length (by omega) (by omega) hB) rfl rfl rfl rfl rfl (fun q hq => ?_)
  obtain ⟨ys, p2⟩ := q
  obtain ⟨hyl, hy⟩ := hq
  dsimp only at hyl hy ⊢
  have hyl : ys.length = rs.length := by omega
  have hy' : ∀ y ∈ ys, 0 ≤ y ∧ y ≤ 1000 := fun y h => by have := hy y h; omega
  (refine Ops.assign rfl rfl rfl ?_; refine Ops.nil (hK _ _ ?_); clear hK K; refine Fin.then ?_; refine St.seq ?_; refine St.regionK (fun K hK => ?_); refine Ops.move rfl rfl rfl ?_)
  refine Ops.callB goNext (Next_ok B0 p2 60 (by decide) (by decide) hB) rfl rfl rfl rfl rfl (fun q hq => ?_)
  obtain ⟨m, p3⟩ := q
  dsimp only at hq ⊢
  have hM : Tb (12 * (m - 10)) := by unfold Tb; omega
  have hw := lwhole_ok (m - 10) (by omega) (by omega)
  generalize 12 * (m - 10) = M at hM hw
  (refine Ops.ibin (isub (by omega) (by omega)) rfl rfl rfl rfl ?_)
  refine Ops.call gowhole hw rfl rfl rfl rfl ?_
  (refine Ops.alloc 1 rfl rfl (by with_reducible first | exact zvFrac) rfl rfl rfl ?_; refine Ops.stWN 3 rfl rfl rfl rfl rfl (by with_reducible exact szFrac) rfl rfl ?_; refine Ops.nil (hK _ _ ?_); clear hK K; refine Fin.then ?_; refine St.seq ?_; refine St.seq ?_; refine St.regionK (fun K hK => ?_); refine Ops.assign rfl rfl rfl ?_; refine Ops.nil (hK _ _ ?_); clear hK K; refine Fin.then ?_; refine St.block ?_)
  have hRef := Refutes_tw N rs ys hv hyl hy'
  have hBnd := Bounds_tw N rs c ys M hv hyl hy' (by omega) hc' hM
  have hCei := Ceiling_tw N rs c ys hv hyl hy' (by omega) hc' (bsum_size hyl rl hb' hy)
  refine St.loop (α := Nat × Nat) (fun x => x.1 ≤ 6)
    (fun x => [(3, .own 0), (4, .ct (intC N)), (5, .ct (rowsC rs)), (6, .ct (intsC c)), (7, .ct (twsC ys)), (8, .own 1), (9, .ct (intC x.1))])
    (fun x => [(1, .box 34 (frCs (tf M))), (0, .box 57 (codes B0 x.2))]) (fun x => 6 - x.1) (0, p3) (Nat.zero_le _) (by exact Entails.of rfl ⟨rfl, rfl, rfl, rfl, rfl, rfl, rfl, trivial⟩) ?_
  rintro ⟨k, p4⟩ hk
  dsimp only at hk ⊢
  (refine St.seq ?_; refine St.seq ?_; refine St.regionK (fun K hK => ?_); refine Ops.move rfl rfl rfl ?_; refine Ops.ibin ilss rfl rfl rfl rfl ?_; refine Ops.nil (hK _ _ ?_); clear hK K; refine Fin.then ?_)
  refine St.condP rfl (fun hk1 => ?_) (fun hk1 => ?_)
  · (refine St.skip ?_; refine Fin.then ?_; refine St.seq ?_; refine St.block ?_; refine St.seq ?_; refine St.regionK (fun K hK => ?_); refine Ops.move rfl rfl rfl ?_; refine Ops.move rfl rfl rfl ?_)
    refine Ops.callB goFractions (Fractions_ok B0 p4 N (by omega) (by omega) hB) rfl rfl rfl rfl rfl (fun q hq => ?_)
    obtain ⟨xs, p5⟩ := q
    obtain ⟨hxl, hx⟩ := hq
    dsimp only at hxl hx ⊢
    have hxl : xs.length = N := by omega
    have hSat := Satisfies_tw N rs xs hv hxl (fun y h => by have := hx y h; omega)
    have hVal := Value_tw c xs (by omega) (by omega) hc' (fun y h => by have := hx y h; omega)
    have hds := dot_size (c := c) (by omega) hc2 hx
    have hCmp := rFCompare_tw (dot c xs) M (by unfold Tb; omega) hM
    have hFlo := rFloor_tw (dot c xs) (by omega)
    have hdual : (rs.all fun r => decide (dot r.cs xs ≤ 12 * r.b)) = true → ∀ c', covB (cols rs ys N) c' = true → dot c' xs ≤ bsum rs ys := fun hs c' hcov => by
      subst hxl
      refine weak_dual rs ys xs c' hyl (fun y h => (hy y h).1) (fun x h => (hx x h).1) hcov (fun r hr => ?_)
      simpa using List.all_eq_true.1 hs r hr
    generalize (rs.all fun r => decide (dot r.cs xs ≤ 12 * r.b)) = sat at hSat hdual
    have hd0 : dot [] xs = 0 := by simp [dot, dotN]
    (refine Ops.assign rfl rfl rfl ?_; refine Ops.nil (hK _ _ ?_); clear hK K; refine Fin.then ?_; refine St.seq ?_; refine St.seq ?_; refine St.regionK (fun K hK => ?_); refine Ops.move rfl rfl rfl ?_; refine Ops.move rfl rfl rfl ?_; refine Ops.move rfl rfl rfl ?_)
    refine Ops.call goSatisfies hSat rfl rfl rfl rfl ?_
    (refine Ops.inot rfl rfl rfl ?_; refine Ops.nil (hK _ _ ?_); clear hK K; refine Fin.then ?_)
    cases sat with
    | false =>
      (refine St.condT rfl ?_; refine St.exit ?_; refine Fin.then ?_; refine St.regionK (fun K hK => ?_); refine Ops.move rfl rfl rfl ?_; refine Ops.ibin (iadd (by omega) (by omega)) rfl rfl rfl rfl ?_; refine Ops.assign rfl rfl rfl ?_; refine Ops.nil (hK _ _ ?_); clear hK K; refine Fin.thenN ?_)
      refine Fin.next (k + 1, p5) (by dsimp only; omega) (by dsimp only; omega) (by exact Entails.of rfl ⟨rfl, rfl, rfl, rfl, rfl, rfl, by simp only [Int.natCast_add]; rfl, trivial⟩)
    | true =>
      have hdual := hdual rfl
      (refine St.condF rfl ?_; refine St.skip ?_; refine Fin.then ?_; refine St.seq ?_; refine St.seq ?_; refine St.regionK (fun K hK => ?_); refine Ops.move rfl rfl rfl ?_; refine Ops.move rfl rfl rfl ?_; refine Ops.move rfl rfl rfl ?_)
      refine Ops.call goRefutes hRef rfl rfl rfl rfl ?_
      (refine Ops.nil (hK _ _ ?_); clear hK K; refine Fin.then ?_)
      refine St.condB rfl (fun h => ?_) (fun _ => ?_)
      · simp only [Bool.and_eq_true, decide_eq_true_eq] at h
        have := hdual [] h.2
        omega
      · (refine St.skip ?_; refine Fin.then ?_; refine St.seq ?_; refine St.regionK (fun K hK => ?_); refine Ops.move rfl rfl rfl ?_; refine Ops.move rfl rfl rfl ?_)
        refine Ops.call goValue hVal rfl rfl rfl rfl ?_
        (refine Ops.move rfl rfl rfl ?_; refine Ops.extract rfl rfl rfl rfl ?_; refine Ops.extract rfl rfl rfl rfl ?_; refine Ops.alloc 2 rfl rfl (by with_reducible first | exact zvFrac) rfl rfl rfl ?_; refine Ops.stWN 3 rfl rfl rfl rfl rfl (by with_reducible exact szFrac) rfl rfl ?_; refine Ops.assign rfl rfl rfl ?_; refine Ops.nil (hK _ _ ?_); clear hK K; refine Fin.then ?_; refine St.seq ?_; refine St.seq ?_; refine St.regionK (fun K hK => ?_); refine Ops.move rfl rfl rfl ?_; refine Ops.ibin ineq rfl rfl rfl rfl ?_; refine Ops.nil (hK _ _ ?_); clear hK K; refine Fin.then ?_; refine St.condF rfl ?_; refine St.skip ?_; refine Fin.then ?_; refine St.seq ?_; refine St.seq ?_; refine St.regionK (fun K hK => ?_); refine Ops.ldNO (n := 3) rfl rfl rfl rfl rfl (by with_reducible exact lFrac) rfl ?_; refine Ops.ldNO (n := 3) rfl rfl rfl rfl rfl (by with_reducible exact lFrac) rfl ?_)
        have hdc := hdual c
        have hcI : 0 < cmpI (dot c xs) M → M < dot c xs := fun h => by unfold cmpI at h; split at h <;> (try split at h) <;> omega
        generalize covB (cols rs ys N) c = cv at hBnd hCei hdc
        cases cv with
        | false =>
          refine Ops.call gorFCompare hCmp rfl rfl rfl rfl ?_
          (refine Ops.move rfl rfl rfl ?_; refine Ops.extract rfl rfl rfl rfl ?_; refine Ops.extract rfl rfl rfl rfl ?_; refine Ops.assign rfl rfl rfl ?_; refine Ops.assign rfl rfl rfl ?_; refine Ops.nil (hK _ _ ?_); clear hK K; refine Fin.then ?_; refine St.seq ?_; refine St.regionK (fun K hK => ?_); refine Ops.move rfl rfl rfl ?_; refine Ops.ibin igtr rfl rfl rfl rfl ?_; refine Ops.move rfl rfl rfl ?_)
          refine Ops.splitP 69 rfl (fun hpos => ?_) (fun _ => ?_)
          · (refine Ops.move rfl rfl rfl ?_; refine Ops.move rfl rfl rfl ?_; refine Ops.move rfl rfl rfl ?_; refine Ops.move rfl rfl rfl ?_; refine Ops.ldNO (n := 3) rfl rfl rfl rfl rfl (by with_reducible exact lFrac) rfl ?_)
            refine Ops.call goBounds hBnd rfl rfl rfl rfl ?_
            (refine Ops.pickT rfl rfl rfl rfl ?_; refine Ops.nil (hK _ _ ?_); clear hK K; refine Fin.then ?_; refine St.condF rfl ?_; refine St.skip ?_; refine Fin.then ?_; refine St.seq ?_; refine St.regionK (fun K hK => ?_); refine Ops.move rfl rfl rfl ?_; refine Ops.move rfl rfl rfl ?_; refine Ops.move rfl rfl rfl ?_; refine Ops.move rfl rfl rfl ?_)
            refine Ops.call goCeiling hCei rfl rfl rfl rfl ?_
            (refine Ops.move rfl rfl rfl ?_; refine Ops.extract rfl rfl rfl rfl ?_; refine Ops.extract rfl rfl rfl rfl ?_; refine Ops.assign rfl rfl rfl ?_; refine Ops.assign rfl rfl rfl ?_; refine Ops.nil (hK _ _ ?_); clear hK K; refine Fin.then ?_; refine St.seq ?_; refine St.regionK (fun K hK => ?_); refine Ops.move rfl rfl rfl ?_; refine Ops.nil (hK _ _ ?_); clear hK K; refine Fin.then ?_; refine St.condF rfl ?_; refine St.skip ?_; refine Fin.then ?_; refine St.regionK (fun K hK => ?_); refine Ops.move rfl rfl rfl ?_; refine Ops.ibin (iadd (by omega) (by omega)) rfl rfl rfl rfl ?_; refine Ops.assign rfl rfl rfl ?_; refine Ops.nil (hK _ _ ?_); clear hK K; refine Fin.thenN ?_)
            refine Fin.dropB 2 ?_
            refine Fin.next (k + 1, p5) (by dsimp only; omega) (by dsimp only; omega) (by exact Entails.of rfl ⟨rfl, rfl, rfl, rfl, rfl, rfl, by simp only [Int.natCast_add]; rfl, trivial⟩)
          · (refine Ops.skip rfl rfl rfl ?_; refine Ops.skip rfl rfl rfl ?_; refine Ops.skip rfl rfl rfl ?_; refine Ops.skip rfl rfl rfl ?_; refine Ops.skip rfl rfl rfl ?_; refine Ops.skip rfl rfl rfl ?_; refine Ops.pickF rfl rfl rfl rfl ?_; refine Ops.nil (hK _ _ ?_); clear hK K; refine Fin.then ?_; refine St.condF rfl ?_; refine St.skip ?_; refine Fin.then ?_; refine St.seq ?_; refine St.regionK (fun K hK => ?_); refine Ops.move rfl rfl rfl ?_; refine Ops.move rfl rfl rfl ?_; refine Ops.move rfl rfl rfl ?_; refine Ops.move rfl rfl rfl ?_)
            refine Ops.call goCeiling hCei rfl rfl rfl rfl ?_
            (refine Ops.move rfl rfl rfl ?_; refine Ops.extract rfl rfl rfl rfl ?_; refine Ops.extract rfl rfl rfl rfl ?_; refine Ops.assign rfl rfl rfl ?_; refine Ops.assign rfl rfl rfl ?_; refine Ops.nil (hK _ _ ?_); clear hK K; refine Fin.then ?_; refine St.seq ?_; refine St.regionK (fun K hK => ?_); refine Ops.move rfl rfl rfl ?_; refine Ops.nil (hK _ _ ?_); clear hK K; refine Fin.then ?_; refine St.condF rfl ?_; refine St.skip ?_; refine Fin.then ?_; refine St.regionK (fun K hK => ?_); refine Ops.move rfl rfl rfl ?_; refine Ops.ibin (iadd (by omega) (by omega)) rfl rfl rfl rfl ?_; refine Ops.assign rfl rfl rfl ?_; refine Ops.nil (hK _ _ ?_); clear hK K; refine Fin.thenN ?_)
            refine Fin.dropB 2 ?_
            refine Fin.next (k + 1, p5) (by dsimp only; omega) (by dsimp only; omega) (by exact Entails.of rfl ⟨rfl, rfl, rfl, rfl, rfl, rfl, by simp only [Int.natCast_add]; rfl, trivial⟩)
        | true =>
          refine Ops.call gorFCompare hCmp rfl rfl rfl rfl ?_
          (refine Ops.move rfl rfl rfl ?_; refine Ops.extract rfl rfl rfl rfl ?_; refine Ops.extract rfl rfl rfl rfl ?_; refine Ops.assign rfl rfl rfl ?_; refine Ops.assign rfl rfl rfl ?_; refine Ops.nil (hK _ _ ?_); clear hK K; refine Fin.then ?_; refine St.seq ?_; refine St.regionK (fun K hK => ?_); refine Ops.move rfl rfl rfl ?_; refine Ops.ibin igtr rfl rfl rfl rfl ?_; refine Ops.move rfl rfl rfl ?_)
          refine Ops.splitP 69 rfl (fun hpos => ?_) (fun _ => ?_)
          · (refine Ops.move rfl rfl rfl ?_; refine Ops.move rfl rfl rfl ?_; refine Ops.move rfl rfl rfl ?_; refine Ops.move rfl rfl rfl ?_; refine Ops.ldNO (n := 3) rfl rfl rfl rfl rfl (by with_reducible exact lFrac) rfl ?_)
            refine Ops.call goBounds hBnd rfl rfl rfl rfl ?_
            (refine Ops.pickT rfl rfl rfl rfl ?_; refine Ops.nil (hK _ _ ?_); clear hK K; refine Fin.then ?_)
            refine St.condB rfl (fun h => ?_) (fun _ => ?_)
            · have h1 := hdc rfl
              have h2 := hcI hpos
              simp only [Bool.true_and, Bool.not_eq_true', decide_eq_false_iff_not] at h
              omega
            · (refine St.skip ?_; refine Fin.then ?_; refine St.seq ?_; refine St.regionK (fun K hK => ?_); refine Ops.move rfl rfl rfl ?_; refine Ops.move rfl rfl rfl ?_; refine Ops.move rfl rfl rfl ?_; refine Ops.move rfl rfl rfl ?_)
              refine Ops.call goCeiling hCei rfl rfl rfl rfl ?_
              (refine Ops.move rfl rfl rfl ?_; refine Ops.extract rfl rfl rfl rfl ?_; refine Ops.extract rfl rfl rfl rfl ?_; refine Ops.assign rfl rfl rfl ?_; refine Ops.assign rfl rfl rfl ?_; refine Ops.nil (hK _ _ ?_); clear hK K; refine Fin.then ?_; refine St.seq ?_; refine St.regionK (fun K hK => ?_); refine Ops.move rfl rfl rfl ?_; refine Ops.nil (hK _ _ ?_); clear hK K; refine Fin.then ?_; refine St.condT rfl ?_; refine St.seq ?_; refine St.regionK (fun K hK => ?_); refine Ops.ldNO (n := 3) rfl rfl rfl rfl rfl (by with_reducible exact lFrac) rfl ?_)
              refine Ops.call gorFloor hFlo rfl rfl rfl rfl ?_
              (refine Ops.move rfl rfl rfl ?_; refine Ops.extract rfl rfl rfl rfl ?_; refine Ops.extract rfl rfl rfl rfl ?_; refine Ops.assign rfl rfl rfl ?_; refine Ops.assign rfl rfl rfl ?_; refine Ops.nil (hK _ _ ?_); clear hK K; refine Fin.then ?_; refine St.seq ?_; refine St.regionK (fun K hK => ?_); refine Ops.move rfl rfl rfl ?_; refine Ops.ibin ineq rfl rfl rfl rfl ?_; refine Ops.move rfl rfl rfl ?_; refine Ops.move rfl rfl rfl ?_; refine Ops.move rfl rfl rfl ?_; refine Ops.ibin igtr rfl rfl rfl rfl ?_; refine Ops.pickF rfl rfl rfl rfl ?_; refine Ops.nil (hK _ _ ?_); clear hK K; refine Fin.then ?_)
              refine St.condP rfl (fun h => ?_) (fun _ => ?_)
              · rw [if_pos rfl] at h
                have := hdc rfl
                omega
              · (refine St.skip ?_; refine Fin.then ?_; refine St.regionK (fun K hK => ?_); refine Ops.move rfl rfl rfl ?_; refine Ops.ibin (iadd (by omega) (by omega)) rfl rfl rfl rfl ?_; refine Ops.assign rfl rfl rfl ?_; refine Ops.nil (hK _ _ ?_); clear hK K; refine Fin.thenN ?_)
                refine Fin.dropB 2 ?_
                refine Fin.next (k + 1, p5) (by dsimp only; omega) (by dsimp only; omega) (by exact Entails.of rfl ⟨rfl, rfl, rfl, rfl, rfl, rfl, by simp only [Int.natCast_add]; rfl, trivial⟩)
          · (refine Ops.skip rfl rfl rfl ?_; refine Ops.skip rfl rfl rfl ?_; refine Ops.skip rfl rfl rfl ?_; refine Ops.skip rfl rfl rfl ?_; refine Ops.skip rfl rfl rfl ?_; refine Ops.skip rfl rfl rfl ?_; refine Ops.pickF rfl rfl rfl rfl ?_; refine Ops.nil (hK _ _ ?_); clear hK K; refine Fin.then ?_; refine St.condF rfl ?_; refine St.skip ?_; refine Fin.then ?_; refine St.seq ?_; refine St.regionK (fun K hK => ?_); refine Ops.move rfl rfl rfl ?_; refine Ops.move rfl rfl rfl ?_; refine Ops.move rfl rfl rfl ?_; refine Ops.move rfl rfl rfl ?_)
            refine Ops.call goCeiling hCei rfl rfl rfl rfl ?_
            (refine Ops.move rfl rfl rfl ?_; refine Ops.extract rfl rfl rfl rfl ?_; refine Ops.extract rfl rfl rfl rfl ?_; refine Ops.assign rfl rfl rfl ?_; refine Ops.assign rfl rfl rfl ?_; refine Ops.nil (hK _ _ ?_); clear hK K; refine Fin.then ?_; refine St.seq ?_; refine St.regionK (fun K hK => ?_); refine Ops.move rfl rfl rfl ?_; refine Ops.nil (hK _ _ ?_); clear hK K; refine Fin.then ?_; refine St.condT rfl ?_; refine St.seq ?_; refine St.regionK (fun K hK => ?_); refine Ops.ldNO (n := 3) rfl rfl rfl rfl rfl (by with_reducible exact lFrac) rfl ?_)
            refine Ops.call gorFloor hFlo rfl rfl rfl rfl ?_
            (refine Ops.move rfl rfl rfl ?_; refine Ops.extract rfl rfl rfl rfl ?_; refine Ops.extract rfl rfl rfl rfl ?_; refine Ops.assign rfl rfl rfl ?_; refine Ops.assign rfl rfl rfl ?_; refine Ops.nil (hK _ _ ?_); clear hK K; refine Fin.then ?_; refine St.seq ?_; refine St.regionK (fun K hK => ?_); refine Ops.move rfl rfl rfl ?_; refine Ops.ibin ineq rfl rfl rfl rfl ?_; refine Ops.move rfl rfl rfl ?_; refine Ops.move rfl rfl rfl ?_; refine Ops.move rfl rfl rfl ?_; refine Ops.ibin igtr rfl rfl rfl rfl ?_; refine Ops.pickF rfl rfl rfl rfl ?_; refine Ops.nil (hK _ _ ?_); clear hK K; refine Fin.then ?_)
            refine St.condP rfl (fun h => ?_) (fun _ => ?_)
            · rw [if_pos rfl] at h
              have := hdc rfl
              omega
            · (refine St.skip ?_; refine Fin.then ?_; refine St.regionK (fun K hK => ?_); refine Ops.move rfl rfl rfl ?_; refine Ops.ibin (iadd (by omega) (by omega)) rfl rfl rfl rfl ?_; refine Ops.assign rfl rfl rfl ?_; refine Ops.nil (hK _ _ ?_); clear hK K; refine Fin.thenN ?_)
              refine Fin.dropB 2 ?_
              refine Fin.next (k + 1, p5) (by dsimp only; omega) (by dsimp only; omega) (by exact Entails.of rfl ⟨rfl, rfl, rfl, rfl, rfl, rfl, by simp only [Int.natCast_add]; rfl, trivial⟩)
  · (refine St.exit ?_; refine Fin.then ?_; refine St.seq ?_; refine St.regionK (fun K hK => ?_); refine Ops.assign rfl rfl rfl ?_; refine Ops.nil (hK _ _ ?_); clear hK K; refine Fin.then ?_; refine St.ret ?_)
    refine Fin.ret [_] rfl (AllRes.tmp rfl AllRes.nil) rfl rfl
end Go.Proofs.Ytgpkpmhdfcopgaa
