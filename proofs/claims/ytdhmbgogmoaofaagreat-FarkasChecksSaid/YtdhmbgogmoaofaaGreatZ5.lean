/- The proof that FarkasChecks holds for every input, without conditions: part 5 of 6. -/
import Derived.Test.YtdhmbgogmoaofaaGreatZ4
namespace Go.Proofs.YtdhmbgogmoaofaaGreat
open Go.Own Go.Limbs
attribute [local irreducible] St Ops Go.Own.Fin Ok
structure Ro where
  kind : Int
  value : Rf
  point : List Rf
  ray : List Rf
  dual : List Rf
abbrev roCs (O : Ro) : List CT := [intC O.kind, boolC O.value.neg, intsC O.value.xs, intsC O.value.ys, rfsC O.point, rfsC O.ray, rfsC O.dual]
abbrev roC (O : Ro) : CT := .fr (aggT (roCs O))
section
variable {n : Int} {rs : List Rw} {c : List Int} {k : Int} {val : Rf} {pt ray du : List Rf}
set_option maxHeartbeats 8000000 in
theorem FCheck_no (hrl : rs.length < 4611686018427387904) (hr : ∀ r ∈ rs, r.cs.length < 4611686018427387904) (hcl : c.length < 4611686018427387904) (h : (validR n rs && okCoeffs n c) = false) : Ok Tryz.prog 44 [intC n, rowsC rs, intsC c, roC ⟨k, val, pt, ray, du⟩] (boolC false) := by
  have hV := Zh n rs hrl hr; have hC := Yd c _ badC goFCheck1 (fun x _ => FCheck1_ok x) hcl
  cases hv : validR n rs with
  | false =>
    rw [hv] at hV
    refine Ok.enter Tryz.func44 J _ Tryz.ntmps44 J ?_
    intro S w; refine Qy (Qx fun K hK => ?_); refine Qh 0 J J J J J J J (Qj J J J (Qv (hK _ _ (Qz (Qy (Qy ?_)))))); clear hK K; refine Qx (fun K hK => ?_); refine Qq J J J (Qq J J J (QX goLValid hV J J J J (Qe J J J (Qq J J J (Qw J J J (Qw J J J (Qw J J J (Qw J J J (Q6 J J J J (Qq J J J (Qw J J J (Qw J J J (Q6 J J J J (Qv (hK _ _ (Qz (Xq J (Qy ?_)))))))))))))))))); clear hK K; refine Qx (fun K hK => ?_); refine Qj J J J (Qv (hK _ _ (Qz (QU (QV ?_))))); clear hK K; refine QY [_] rfl (Qu J QQ) J J
  | true =>
    rw [hv] at hV h; have h2 : (decide ((c.length : Int) ≤ n) && !c.any badC) = false := h
    refine Ok.enter Tryz.func44 J _ Tryz.ntmps44 J ?_
    intro S w; refine Qy (Qx fun K hK => ?_); refine Qh 0 J J J J J J J (Qj J J J (Qv (hK _ _ (Qz (Qy (Qy ?_)))))); clear hK K; refine Qx (fun K hK => ?_); refine Qq J J J (Qq J J J (QX goLValid hV J J J J (Qe J J J (Qq J J J (Qq J J J (Q3 J J sInts.und (List.length_map ..) J (Qq J J J (Qk igtr J J J J (Q2 J J J J (Qq J J J (Qi 21 J (fun h3 => ?_) (fun h3 => ?_))))))))))))
    · refine Qw J J J (Qw J J J (Q6 J J J J (Qv (hK _ _ (Qz (Xq J (Qy ?_))))))); clear hK K; refine Qx (fun K hK => ?_); refine Qj J J J (Qv (hK _ _ (Qz (QU (QV ?_))))); clear hK K; refine QY [_] rfl (Qu J QQ) J J
    · rw [decide_eq_true (show (c.length : Int) ≤ n by omega), Bool.true_and, Bool.not_eq_false'] at h2; rw [h2] at hC; refine Qq J J J (QX goContainsFunc_ints hC J J J J (Q2 J J J J (Qv (hK _ _ (Qz (Xq J (Qy ?_))))))); clear hK K; refine Qx (fun K hK => ?_); refine Qj J J J (Qv (hK _ _ (Qz (QU (QV ?_))))); clear hK K; refine QY [_] rfl (Qu J QQ) J J
set_option maxHeartbeats 8000000 in
theorem rCheck_no (hrl : rs.length < 4611686018427387904) (hr : ∀ r ∈ rs, r.cs.length < 4611686018427387904) (hcl : c.length < 4611686018427387904) (h : (validR n rs && okCoeffs n c) = false) : Ok Tryz.prog 23 [intC n, rowsC rs, intsC c, roC ⟨k, val, pt, ray, du⟩] (boolC false) := by
  have hV := Zc n rs hrl hr; have hC := rValidGoal_ok n c (by omega)
  cases hv : validR n rs with
  | false =>
    rw [hv] at hV
    refine Ok.enter Tryz.func23 J _ Tryz.ntmps23 J ?_
    intro S w; refine Qy (Qx fun K hK => ?_); refine Qh 0 J J J J J J J (Qj J J J (Qv (hK _ _ (Qz (Qy (Qy ?_)))))); clear hK K; refine Qx (fun K hK => ?_); refine Qq J J J (Qq J J J (QX gorLValid hV J J J J (Qe J J J (Qq J J J (Qw J J J (Qw J J J (Qw J J J (Qw J J J (Q6 J J J J (Qv (hK _ _ (Qz (Xq J (Qy ?_)))))))))))))); clear hK K; refine Qx (fun K hK => ?_); refine Qj J J J (Qv (hK _ _ (Qz (QU (QV ?_))))); clear hK K; refine QY [_] rfl (Qu J QQ) J J
  | true =>
    rw [hv] at hV h; rw [Bool.true_and] at h; rw [h] at hC
    refine Ok.enter Tryz.func23 J _ Tryz.ntmps23 J ?_
    intro S w; refine Qy (Qx fun K hK => ?_); refine Qh 0 J J J J J J J (Qj J J J (Qv (hK _ _ (Qz (Qy (Qy ?_)))))); clear hK K; refine Qx (fun K hK => ?_); refine Qq J J J (Qq J J J (QX gorLValid hV J J J J (Qe J J J (Qq J J J (Qq J J J (Qq J J J (QX gorValidGoal hC J J J J (Qe J J J (Q2 J J J J (Qv (hK _ _ (Qz (Xq J (Qy ?_)))))))))))))); clear hK K; refine Qx (fun K hK => ?_); refine Qj J J J (Qv (hK _ _ (Qz (QU (QV ?_))))); clear hK K; refine QY [_] rfl (Qu J QQ) J J
end
section
variable {N : Nat} {rs : List Rw} {c : List Int} {k : Int} {val : Rf} {pt ray du : List Rf} {gv sb b1 b2 bb zb gb : Bool} {kk : Int} {v : Fr}
variable (hv : validR N rs = true) (hc : okCoeffs N c = true)
include hv hc
set_option maxHeartbeats 8000000 in
theorem FCheck_1 (hrl : ray.length ≤ 1000) (hV : Ok Tryz.prog 64 [.fr (aggT (rfCs val))] (boolC gv)) (hS : Ok Tryz.prog 20 [intC N, rowsC rs, rfsC pt] (boolC sb))
    (hX : gv = true → sb = true → Ok Tryz.prog 17 [intsC c, rfsC pt] (.fr (tupT [fracC v, intC 0])) ∧ Ok Tryz.prog 101 [fracC v, .fr (aggT (rfCs val))] (boolC b1) ∧ Ok Tryz.prog 101 [.fr (aggT (rfCs val)), fracC v] (boolC b2))
    (hB : Ok Tryz.prog 41 [intC N, rowsC rs, intsC c, rfsC du, .fr (aggT (rfCs val))] (boolC bb)) :
    Ok Tryz.prog 44 [intC N, rowsC rs, intsC c, roC ⟨1, val, pt, ray, du⟩] (boolC (decide (ray.length = 0) && (gv && (sb && (!b1 && (!b2 && bb)))))) := by
  generalize hRR : (decide (ray.length = 0) && (gv && (sb && (!b1 && (!b2 && bb))))) = R; obtain ⟨p1, p2, p3⟩ := FCheck_pre N rs c hv hc
  refine Ok.enter Tryz.func44 J _ Tryz.ntmps44 J ?_
  intro S w; refine Qy (Qx fun K hK => ?_); refine Qh 0 J J J J J J J (Qj J J J (Qv (hK _ _ (Qz (Qy (Qy ?_)))))); clear hK K; refine Qx (fun K hK => ?_); refine Qq J J J (Qq J J J (QX goLValid p1 J J J J (Qe J J J (Qq J J J (Qq J J J (Q3 J J sInts.und (List.length_map ..) J (Qq J J J (Qk igtr J J J J (Q2 J J J J (Qq J J J (Qi 21 J (fun h => absurd h (by omega)) (fun _ => ?_)))))))))))); refine Qq J J J (QX goContainsFunc_ints p3 J J J J (Q2 J J J J (Qv (hK _ _ (Qz (Qr J (Q0 (Qz (Qy (Qy ?_)))))))))); clear hK K; refine Qx (fun K hK => ?_); refine QW J J J fO0 J (QK J J J J J lInt J (Qv (hK _ _ (Qz (Q4 (Qy ?_)))))); clear hK K; refine Qx (fun K hK => ?_); refine Qk ieql J J J J (Qj J J J (Qv (hK _ _ (Qz (Xq J (Qy (Qy ?_))))))); clear hK K; refine Qx (fun K hK => ?_); refine QW J J J fO3 J (QK J J J J J lFracs J (Q3 J J sFracs.und (List.length_map ..) J (Qk igtr J J J J (Qq J J J (Qi 33 J (fun h => ?_) (fun h => ?_))))))
  · refine Qw J J J (Qw J J J (Qw J J J (Qw J J J (Q6 J J J J (Qq J J J (Qw J J J (Qw J J J (Qw J J J (Qw J J J (Qw J J J (Qw J J J (Q6 J J J J (Qv (hK _ _ (Qz (Xq J (Qy ?_))))))))))))))))); clear hK K; refine Qx (fun K hK => ?_); refine Qj J J J (Qv (hK _ _ (Qz (QU (QV (Q5 (QV ?_))))))); clear hK K; refine QY [_] rfl (Qu J QQ) (by dsimp only at h; rw [← hRR, decide_eq_false (show ¬ ray.length = 0 by omega)]; rfl) J
  dsimp only at h; rw [decide_eq_true (show ray.length = 0 by omega), Bool.true_and] at hRR; refine QW J J J fO1 J (Z6 (n := 3) J J J J (Nat.le_of_ble_eq_true J) Qg J (QX Yx hV J J J J ?_))
  cases gv with
  | false =>
    refine Qe J J J (Q2 J J J J (Qq J J J (Qw J J J (Qw J J J (Qw J J J (Qw J J J (Qw J J J (Qw J J J (Q6 J J J J (Qv (hK _ _ (Qz (Xq J (Qy ?_)))))))))))))); clear hK K; refine Qx (fun K hK => ?_); refine Qj J J J (Qv (hK _ _ (Qz (QU (QV (Q5 (QV ?_))))))); clear hK K; refine QY [_] rfl (Qu J QQ) (by rw [← hRR]; rfl) J
  | true =>
    refine Qe J J J (Q2 J J J J (Qq J J J (Qq J J J (Qq J J J (QW J J J fO2 J (QK J J J J J lFracs J (QX goSatisfies hS J J J J ?_)))))))
    cases sb with
    | false =>
      refine Qe J J J (Q2 J J J J (Qv (hK _ _ (Qz (Xq J (Qy ?_)))))); clear hK K; refine Qx (fun K hK => ?_); refine Qj J J J (Qv (hK _ _ (Qz (QU (QV (Q5 (QV ?_))))))); clear hK K; refine QY [_] rfl (Qu J QQ) (by rw [← hRR]; rfl) J
    | true =>
      obtain ⟨x1, x2, x3⟩ := hX rfl rfl; refine Qe J J J (Q2 J J J J (Qv (hK _ _ (Qz (Qr J (Q0 (Qz (Qy ?_)))))))); clear hK K; refine Qx (fun K hK => ?_); refine Qq J J J (QW J J J fO2 J (QK J J J J J lFracs J (QX goValue x1 J J J J (Qq J J J (QZ J J J J (QZ J J J J (Qa 1 J J zvFrac J J J (Q8 3 J J J J J szFrac J J (Qj J J J (Qv (hK _ _ (Qz (Qy ?_))))))))))))); clear hK K; refine Qx (fun K hK => ?_); refine Qq J J J (Qk ieql J J J J (Qq J J J (Qd (n := 3) J J J J J Qg J (QW J J J fO1 J (Z6 (n := 3) J J J J (Nat.le_of_ble_eq_true J) Qg J (QX goless x2 J J J J ?_))))))
      cases b1 with
      | true =>
        refine Qe J J J (Q6 J J J J (Qq J J J (Qw J J J (Qw J J J (Qw J J J (Qw J J J (Qw J J J (Q2 J J J J (Qq J J J (Qw J J J (Qw J J J (Qw J J J (Qw J J J (Qw J J J (Qw J J J (Qw J J J (Qw J J J (Q2 J J J J (Qj J J J (Qv (hK _ _ (Qz (QU (Q5 (QV ?_))))))))))))))))))))))))); clear hK K; refine QY [_] rfl (Qu J QQ) (by rw [← hRR]; rfl) J
      | false =>
        refine Qe J J J (Q6 J J J J (Qq J J J (QW J J J fO1 J (Z6 (n := 3) J J J J (Nat.le_of_ble_eq_true J) Qg J (Qd (n := 3) J J J J J Qg J (QX goless x3 J J J J ?_))))))
        cases b2 with
        | true =>
          refine Qe J J J (Q6 J J J J (Qq J J J (Qw J J J (Qw J J J (Qw J J J (Qw J J J (Qw J J J (Qw J J J (Qw J J J (Qw J J J (Q2 J J J J (Qj J J J (Qv (hK _ _ (Qz (QU (Q5 (QV ?_)))))))))))))))))); clear hK K; refine QY [_] rfl (Qu J QQ) (by rw [← hRR]; rfl) J
        | false =>
          refine Qe J J J (Q6 J J J J (Qq J J J (Qq J J J (Qq J J J (Qq J J J (QW J J J fO4 J (QK J J J J J lFracs J (QW J J J fO1 J (Z6 (n := 3) J J J J (Nat.le_of_ble_eq_true J) Qg J (QX goBounds hB J J J J (Q6 J J J J (Qj J J J (Qv (hK _ _ (Qz (QU (Q5 (QV ?_)))))))))))))))))); clear hK K; refine QY [_] rfl (Qu J QQ) (by rw [← hRR]; rfl) J
set_option maxHeartbeats 8000000 in
theorem rCheck_1 (hrl : ray.length ≤ 1000) (hV : Ok Tryz.prog 55 [.fr (aggT (rfCs val))] (boolC gv)) (hS : Ok Tryz.prog 21 [intC N, rowsC rs, rfsC pt] (boolC sb))
    (hX : gv = true → sb = true → Ok Tryz.prog 18 [intsC c, rfsC pt] (.fr (tupT [fracC v, intC 0])) ∧ Ok Tryz.prog 25 [fracC v, .fr (aggT (rfCs val))] (.fr (tupT [intC kk, intC 0])))
    (hB : Ok Tryz.prog 54 [intC N, rowsC rs, intsC c, rfsC du, .fr (aggT (rfCs val))] (boolC bb)) :
    Ok Tryz.prog 23 [intC N, rowsC rs, intsC c, roC ⟨1, val, pt, ray, du⟩] (boolC (decide (ray.length = 0) && (gv && (sb && (decide (kk = 0) && bb))))) := by
  generalize hRR : (decide (ray.length = 0) && (gv && (sb && (decide (kk = 0) && bb)))) = R; obtain ⟨p1, p2⟩ := rCheck_pre N rs c hv hc
  refine Ok.enter Tryz.func23 J _ Tryz.ntmps23 J ?_
  intro S w; refine Qy (Qx fun K hK => ?_); refine Qh 0 J J J J J J J (Qj J J J (Qv (hK _ _ (Qz (Qy (Qy ?_)))))); clear hK K; refine Qx (fun K hK => ?_); refine Qq J J J (Qq J J J (QX gorLValid p1 J J J J (Qe J J J (Qq J J J (Qq J J J (Qq J J J (QX gorValidGoal p2 J J J J (Qe J J J (Q2 J J J J (Qv (hK _ _ (Qz (Qr J (Q0 (Qz (Qy (Qy ?_))))))))))))))))); clear hK K; refine Qx (fun K hK => ?_); refine QW J J J fO0 J (QK J J J J J lInt J (Qv (hK _ _ (Qz (Q4 (Qy ?_)))))); clear hK K; refine Qx (fun K hK => ?_); refine Qk ieql J J J J (Qj J J J (Qv (hK _ _ (Qz (Xq J (Qy (Qy ?_))))))); clear hK K; refine Qx (fun K hK => ?_); refine QW J J J fO3 J (QK J J J J J lFracs J (Q3 J J sFracs.und (List.length_map ..) J (Qk igtr J J J J (Qq J J J (Qi 31 J (fun h => ?_) (fun h => ?_))))))
  · refine Qw J J J (Qw J J J (Qw J J J (Qw J J J (Qw J J J (Qw J J J (Q6 J J J J (Qq J J J (Qw J J J (Qw J J J (Qw J J J (Qw J J J (Q6 J J J J (Qv (hK _ _ (Qz (Xq J (Qy ?_))))))))))))))))); clear hK K; refine Qx (fun K hK => ?_); refine Qj J J J (Qv (hK _ _ (Qz (QU (QV (Q5 (QV ?_))))))); clear hK K; refine QY [_] rfl (Qu J QQ) (by dsimp only at h; rw [← hRR, decide_eq_false (show ¬ ray.length = 0 by omega)]; rfl) J
  dsimp only at h; rw [decide_eq_true (show ray.length = 0 by omega), Bool.true_and] at hRR; refine Qq J J J (Qq J J J (QW J J J fO2 J (QK J J J J J lFracs J (QX gorSatisfies hS J J J J ?_))))
  cases sb with
  | false =>
    refine Qe J J J (Q2 J J J J (Qq J J J (Qw J J J (Qw J J J (Qw J J J (Qw J J J (Q6 J J J J (Qv (hK _ _ (Qz (Xq J (Qy ?_)))))))))))); clear hK K; refine Qx (fun K hK => ?_); refine Qj J J J (Qv (hK _ _ (Qz (QU (QV (Q5 (QV ?_))))))); clear hK K; refine QY [_] rfl (Qu J QQ) (by rw [← hRR, Bool.false_and, Bool.and_false]; rfl) J
  | true =>
    refine Qe J J J (Q2 J J J J (Qq J J J (QW J J J fO1 J (Z6 (n := 3) J J J J (Nat.le_of_ble_eq_true J) Qg J (QX gorFValid hV J J J J ?_)))))
    cases gv with
    | false =>
      refine Qe J J J (Q2 J J J J (Qv (hK _ _ (Qz (Xq J (Qy ?_)))))); clear hK K; refine Qx (fun K hK => ?_); refine Qj J J J (Qv (hK _ _ (Qz (QU (QV (Q5 (QV ?_))))))); clear hK K; refine QY [_] rfl (Qu J QQ) (by rw [← hRR]; rfl) J
    | true =>
      obtain ⟨x1, x2⟩ := hX rfl rfl; refine Qe J J J (Q2 J J J J (Qv (hK _ _ (Qz (Qr J (Q0 (Qz (Qy ?_)))))))); clear hK K; refine Qx (fun K hK => ?_); refine Qq J J J (QW J J J fO2 J (QK J J J J J lFracs J (QX gorValue x1 J J J J (Qq J J J (QZ J J J J (QZ J J J J (Qa 1 J J zvFrac J J J (Q8 3 J J J J J szFrac J J (Qj J J J (Qv (hK _ _ (Qz (Qy ?_))))))))))))); clear hK K; refine Qx (fun K hK => ?_); refine Qd (n := 3) J J J J J Qg J (QW J J J fO1 J (Z6 (n := 3) J J J J (Nat.le_of_ble_eq_true J) Qg J (QX YK x2 J J J J (Qq J J J (QZ J J J J (QZ J J J J (Qj J J J (Qj J J J (Qv (hK _ _ (Qz (Qy ?_)))))))))))); clear hK K; refine Qx (fun K hK => ?_); refine Qq J J J (Qk ieql J J J J (Qq J J J (Qq J J J (Qk ieql J J J J (Q6 J J J J (Qq J J J (Qi 65 J (fun h => ?_) (fun h => ?_))))))))
      · rw [decide_eq_true h] at hRR; refine Qq J J J (Qq J J J (Qq J J J (QW J J J fO4 J (QK J J J J J lFracs J (QW J J J fO1 J (Z6 (n := 3) J J J J (Nat.le_of_ble_eq_true J) Qg J (QX gorBounds hB J J J J (Q6 J J J J (Qj J J J (Qv (hK _ _ (Qz (QU (Q5 (QV ?_))))))))))))))); clear hK K; refine QY [_] rfl (Qu J QQ) (by rw [← hRR]; rfl) J
      · rw [decide_eq_false h] at hRR; refine Qw J J J (Qw J J J (Qw J J J (Qw J J J (Qw J J J (Qw J J J (Qw J J J (Qw J J J (Q2 J J J J (Qj J J J (Qv (hK _ _ (Qz (QU (Q5 (QV ?_))))))))))))))); clear hK K; refine QY [_] rfl (Qu J QQ) (by rw [← hRR]; rfl) J
set_option maxHeartbeats 8000000 in
theorem FCheck_2 (hdl : du.length ≤ 1000) (hZ : Ok Tryz.prog 108 [.fr (aggT (rfCs val))] (boolC zb)) (hS : Ok Tryz.prog 20 [intC N, rowsC rs, rfsC pt] (boolC sb))
    (hG : Ok Tryz.prog 109 [intC N, rowsC rs, intsC c, rfsC ray] (boolC gb)) :
    Ok Tryz.prog 44 [intC N, rowsC rs, intsC c, roC ⟨2, val, pt, ray, du⟩] (boolC (decide (du.length = 0) && (zb && (sb && gb)))) := by
  generalize hRR : (decide (du.length = 0) && (zb && (sb && gb))) = R; obtain ⟨p1, p2, p3⟩ := FCheck_pre N rs c hv hc
  refine Ok.enter Tryz.func44 J _ Tryz.ntmps44 J ?_
  intro S w; refine Qy (Qx fun K hK => ?_); refine Qh 0 J J J J J J J (Qj J J J (Qv (hK _ _ (Qz (Qy (Qy ?_)))))); clear hK K; refine Qx (fun K hK => ?_); refine Qq J J J (Qq J J J (QX goLValid p1 J J J J (Qe J J J (Qq J J J (Qq J J J (Q3 J J sInts.und (List.length_map ..) J (Qq J J J (Qk igtr J J J J (Q2 J J J J (Qq J J J (Qi 21 J (fun h => absurd h (by omega)) (fun _ => ?_)))))))))))); refine Qq J J J (QX goContainsFunc_ints p3 J J J J (Q2 J J J J (Qv (hK _ _ (Qz (Qr J (Q0 (Qz (Qy (Qy ?_)))))))))); clear hK K; refine Qx (fun K hK => ?_); refine QW J J J fO0 J (QK J J J J J lInt J (Qv (hK _ _ (Qz (Q4 (Qy ?_)))))); clear hK K; refine Qx (fun K hK => ?_); refine Qk ieql J J J J (Qj J J J (Qv (hK _ _ (Qz (Qr J (Qy ?_)))))); clear hK K; refine Qx (fun K hK => ?_); refine Qk ieql J J J J (Qj J J J (Qv (hK _ _ (Qz (Xq J (Qy ?_)))))); clear hK K; refine Qx (fun K hK => ?_); refine QW J J J fO4 J (QK J J J J J lFracs J (Q3 J J sFracs.und (List.length_map ..) J (Qk ieql J J J J (Qq J J J (Qi 86 J (fun h => ?_) (fun h => ?_)))))); rotate_left
  · refine Qw J J J (Qw J J J (Qw J J J (Q2 J J J J (Qq J J J (Qw J J J (Qw J J J (Qw J J J (Qw J J J (Qw J J J (Q2 J J J J (Qq J J J (Qw J J J (Qw J J J (Qw J J J (Qw J J J (Qw J J J (Qw J J J (Q2 J J J J (Qj J J J (Qv (hK _ _ (Qz (QU (Q5 (QV ?_))))))))))))))))))))))))); clear hK K; refine QY [_] rfl (Qu J QQ) (by dsimp only at h; rw [← hRR, decide_eq_false (show ¬ du.length = 0 by omega)]; rfl) J
  dsimp only at h; rw [decide_eq_true (show du.length = 0 by omega), Bool.true_and] at hRR; refine QW J J J fO1 J (Z6 (n := 3) J J J J (Nat.le_of_ble_eq_true J) Qg J (QX gozero hZ J J J J ?_))
  cases zb with
  | false =>
    refine Q6 J J J J (Qq J J J (Qw J J J (Qw J J J (Qw J J J (Qw J J J (Qw J J J (Q2 J J J J (Qq J J J (Qw J J J (Qw J J J (Qw J J J (Qw J J J (Qw J J J (Qw J J J (Q2 J J J J (Qj J J J (Qv (hK _ _ (Qz (QU (Q5 (QV ?_)))))))))))))))))))))); clear hK K; refine QY [_] rfl (Qu J QQ) (by rw [← hRR]; rfl) J
  | true =>
    refine Q6 J J J J (Qq J J J (Qq J J J (Qq J J J (QW J J J fO2 J (QK J J J J J lFracs J (QX goSatisfies hS J J J J ?_))))))
    cases sb with
    | false =>
      refine Q6 J J J J (Qq J J J (Qw J J J (Qw J J J (Qw J J J (Qw J J J (Qw J J J (Qw J J J (Q2 J J J J (Qj J J J (Qv (hK _ _ (Qz (QU (Q5 (QV ?_))))))))))))))); clear hK K; refine QY [_] rfl (Qu J QQ) (by rw [← hRR]; rfl) J
    | true =>
      refine Q6 J J J J (Qq J J J (Qq J J J (Qq J J J (Qq J J J (QW J J J fO3 J (QK J J J J J lFracs J (QX gogrows hG J J J J (Q6 J J J J (Qj J J J (Qv (hK _ _ (Qz (QU (Q5 (QV ?_))))))))))))))); clear hK K; refine QY [_] rfl (Qu J QQ) (by rw [← hRR]; rfl) J
set_option maxHeartbeats 8000000 in
theorem rCheck_2 (hdl : du.length ≤ 1000) (hZ : Ok Tryz.prog 76 [.fr (aggT (rfCs val))] (boolC zb)) (hS : Ok Tryz.prog 21 [intC N, rowsC rs, rfsC pt] (boolC sb))
    (hG : Ok Tryz.prog 77 [intC N, rowsC rs, intsC c, rfsC ray] (boolC gb)) :
    Ok Tryz.prog 23 [intC N, rowsC rs, intsC c, roC ⟨2, val, pt, ray, du⟩] (boolC (decide (du.length = 0) && (zb && (sb && gb)))) := by
  generalize hRR : (decide (du.length = 0) && (zb && (sb && gb))) = R; obtain ⟨p1, p2⟩ := rCheck_pre N rs c hv hc
  refine Ok.enter Tryz.func23 J _ Tryz.ntmps23 J ?_
  intro S w; refine Qy (Qx fun K hK => ?_); refine Qh 0 J J J J J J J (Qj J J J (Qv (hK _ _ (Qz (Qy (Qy ?_)))))); clear hK K; refine Qx (fun K hK => ?_); refine Qq J J J (Qq J J J (QX gorLValid p1 J J J J (Qe J J J (Qq J J J (Qq J J J (Qq J J J (QX gorValidGoal p2 J J J J (Qe J J J (Q2 J J J J (Qv (hK _ _ (Qz (Qr J (Q0 (Qz (Qy (Qy ?_))))))))))))))))); clear hK K; refine Qx (fun K hK => ?_); refine QW J J J fO0 J (QK J J J J J lInt J (Qv (hK _ _ (Qz (Q4 (Qy ?_)))))); clear hK K; refine Qx (fun K hK => ?_); refine Qk ieql J J J J (Qj J J J (Qv (hK _ _ (Qz (Qr J (Qy ?_)))))); clear hK K; refine Qx (fun K hK => ?_); refine Qk ieql J J J J (Qj J J J (Qv (hK _ _ (Qz (Xq J (Qy ?_)))))); clear hK K; refine Qx (fun K hK => ?_); refine QW J J J fO4 J (QK J J J J J lFracs J (Q3 J J sFracs.und (List.length_map ..) J (Qk ieql J J J J (Qq J J J (Qi 81 J (fun h => ?_) (fun h => ?_)))))); rotate_left
  · refine Qw J J J (Qw J J J (Qw J J J (Q2 J J J J (Qq J J J (Qw J J J (Qw J J J (Qw J J J (Qw J J J (Qw J J J (Q2 J J J J (Qq J J J (Qw J J J (Qw J J J (Qw J J J (Qw J J J (Qw J J J (Qw J J J (Q2 J J J J (Qj J J J (Qv (hK _ _ (Qz (QU (Q5 (QV ?_))))))))))))))))))))))))); clear hK K; refine QY [_] rfl (Qu J QQ) (by dsimp only at h; rw [← hRR, decide_eq_false (show ¬ du.length = 0 by omega)]; rfl) J
  dsimp only at h; rw [decide_eq_true (show du.length = 0 by omega), Bool.true_and] at hRR; refine QW J J J fO1 J (Z6 (n := 3) J J J J (Nat.le_of_ble_eq_true J) Qg J (QX gorzero hZ J J J J ?_))
  cases zb with
  | false =>
    refine Q6 J J J J (Qq J J J (Qw J J J (Qw J J J (Qw J J J (Qw J J J (Qw J J J (Q2 J J J J (Qq J J J (Qw J J J (Qw J J J (Qw J J J (Qw J J J (Qw J J J (Qw J J J (Q2 J J J J (Qj J J J (Qv (hK _ _ (Qz (QU (Q5 (QV ?_)))))))))))))))))))))); clear hK K; refine QY [_] rfl (Qu J QQ) (by rw [← hRR]; rfl) J
  | true =>
    refine Q6 J J J J (Qq J J J (Qq J J J (Qq J J J (QW J J J fO2 J (QK J J J J J lFracs J (QX gorSatisfies hS J J J J ?_))))))
    cases sb with
    | false =>
      refine Q6 J J J J (Qq J J J (Qw J J J (Qw J J J (Qw J J J (Qw J J J (Qw J J J (Qw J J J (Q2 J J J J (Qj J J J (Qv (hK _ _ (Qz (QU (Q5 (QV ?_))))))))))))))); clear hK K; refine QY [_] rfl (Qu J QQ) (by rw [← hRR]; rfl) J
    | true =>
      refine Q6 J J J J (Qq J J J (Qq J J J (Qq J J J (Qq J J J (QW J J J fO3 J (QK J J J J J lFracs J (QX gorgrows hG J J J J (Q6 J J J J (Qj J J J (Qv (hK _ _ (Qz (QU (Q5 (QV ?_))))))))))))))); clear hK K; refine QY [_] rfl (Qu J QQ) (by rw [← hRR]; rfl) J
set_option maxHeartbeats 8000000 in
theorem FCheck_3 (hpl : pt.length ≤ 1000) (hrl : ray.length ≤ 1000) (hZ : Ok Tryz.prog 108 [.fr (aggT (rfCs val))] (boolC zb)) (hR : Ok Tryz.prog 49 [intC N, rowsC rs, rfsC du] (boolC gb)) :
    Ok Tryz.prog 44 [intC N, rowsC rs, intsC c, roC ⟨3, val, pt, ray, du⟩] (boolC (decide (pt.length = 0) && (decide (ray.length = 0) && (zb && gb)))) := by
  generalize hRR : (decide (pt.length = 0) && (decide (ray.length = 0) && (zb && gb))) = R; obtain ⟨p1, p2, p3⟩ := FCheck_pre N rs c hv hc
  refine Ok.enter Tryz.func44 J _ Tryz.ntmps44 J ?_
  intro S w; refine Qy (Qx fun K hK => ?_); refine Qh 0 J J J J J J J (Qj J J J (Qv (hK _ _ (Qz (Qy (Qy ?_)))))); clear hK K; refine Qx (fun K hK => ?_); refine Qq J J J (Qq J J J (QX goLValid p1 J J J J (Qe J J J (Qq J J J (Qq J J J (Q3 J J sInts.und (List.length_map ..) J (Qq J J J (Qk igtr J J J J (Q2 J J J J (Qq J J J (Qi 21 J (fun h => absurd h (by omega)) (fun _ => ?_)))))))))))); refine Qq J J J (QX goContainsFunc_ints p3 J J J J (Q2 J J J J (Qv (hK _ _ (Qz (Qr J (Q0 (Qz (Qy (Qy ?_)))))))))); clear hK K; refine Qx (fun K hK => ?_); refine QW J J J fO0 J (QK J J J J J lInt J (Qv (hK _ _ (Qz (Q4 (Qy ?_)))))); clear hK K; refine Qx (fun K hK => ?_); refine Qk ieql J J J J (Qj J J J (Qv (hK _ _ (Qz (Qr J (Qy ?_)))))); clear hK K; refine Qx (fun K hK => ?_); refine Qk ieql J J J J (Qj J J J (Qv (hK _ _ (Qz (Qr J (Qy ?_)))))); clear hK K; refine Qx (fun K hK => ?_); refine Qk ieql J J J J (Qj J J J (Qv (hK _ _ (Qz (Xq J (Qy ?_)))))); clear hK K; refine Qx (fun K hK => ?_)
  refine QW J J J fO2 J (QK J J J J J lFracs J (Q3 J J sFracs.und (List.length_map ..) J (Qk ieql J J J J (Qq J J J (Qi 112 J (fun h => ?_) (fun h => ?_)))))); rotate_left
  · refine Qw J J J (Qw J J J (Qw J J J (Qw J J J (Q2 J J J J (Qq J J J (Qw J J J (Qw J J J (Qw J J J (Q2 J J J J (Qq J J J (Qw J J J (Qw J J J (Qw J J J (Qw J J J (Qw J J J (Q2 J J J J (Qj J J J (Qv (hK _ _ (Qz (QU (Q5 (QV ?_))))))))))))))))))))))); clear hK K; refine QY [_] rfl (Qu J QQ) (by dsimp only at h; rw [← hRR, decide_eq_false (show ¬ pt.length = 0 by omega)]; rfl) J
  dsimp only at h; rw [decide_eq_true (show pt.length = 0 by omega), Bool.true_and] at hRR; refine QW J J J fO3 J (QK J J J J J lFracs J (Q3 J J sFracs.und (List.length_map ..) J (Qk ieql J J J J (Q6 J J J J (Qq J J J (Qi 118 J (fun h => ?_) (fun h => ?_))))))); rotate_left
  · refine Qw J J J (Qw J J J (Qw J J J (Q2 J J J J (Qq J J J (Qw J J J (Qw J J J (Qw J J J (Qw J J J (Qw J J J (Q2 J J J J (Qj J J J (Qv (hK _ _ (Qz (QU (Q5 (QV ?_))))))))))))))))); clear hK K; refine QY [_] rfl (Qu J QQ) (by dsimp only at h; rw [← hRR, decide_eq_false (show ¬ ray.length = 0 by omega)]; rfl) J
  dsimp only at h; rw [decide_eq_true (show ray.length = 0 by omega), Bool.true_and] at hRR; refine QW J J J fO1 J (Z6 (n := 3) J J J J (Nat.le_of_ble_eq_true J) Qg J (QX gozero hZ J J J J ?_))
  cases zb with
  | false =>
    refine Q6 J J J J (Qq J J J (Qw J J J (Qw J J J (Qw J J J (Qw J J J (Qw J J J (Q2 J J J J (Qj J J J (Qv (hK _ _ (Qz (QU (Q5 (QV ?_)))))))))))))); clear hK K; refine QY [_] rfl (Qu J QQ) (by rw [← hRR]; rfl) J
  | true =>
    refine Q6 J J J J (Qq J J J (Qq J J J (Qq J J J (QW J J J fO4 J (QK J J J J J lFracs J (QX goRefutes hR J J J J (Q6 J J J J (Qj J J J (Qv (hK _ _ (Qz (QU (Q5 (QV ?_)))))))))))))); clear hK K; refine QY [_] rfl (Qu J QQ) (by rw [← hRR]; rfl) J
set_option maxHeartbeats 8000000 in
theorem rCheck_3 (hpl : pt.length ≤ 1000) (hrl : ray.length ≤ 1000) (hZ : Ok Tryz.prog 76 [.fr (aggT (rfCs val))] (boolC zb)) (hR : Ok Tryz.prog 50 [intC N, rowsC rs, rfsC du] (boolC gb)) :
    Ok Tryz.prog 23 [intC N, rowsC rs, intsC c, roC ⟨3, val, pt, ray, du⟩] (boolC (decide (pt.length = 0) && (decide (ray.length = 0) && (zb && gb)))) := by
  generalize hRR : (decide (pt.length = 0) && (decide (ray.length = 0) && (zb && gb))) = R; obtain ⟨p1, p2⟩ := rCheck_pre N rs c hv hc
  refine Ok.enter Tryz.func23 J _ Tryz.ntmps23 J ?_
  intro S w; refine Qy (Qx fun K hK => ?_); refine Qh 0 J J J J J J J (Qj J J J (Qv (hK _ _ (Qz (Qy (Qy ?_)))))); clear hK K; refine Qx (fun K hK => ?_); refine Qq J J J (Qq J J J (QX gorLValid p1 J J J J (Qe J J J (Qq J J J (Qq J J J (Qq J J J (QX gorValidGoal p2 J J J J (Qe J J J (Q2 J J J J (Qv (hK _ _ (Qz (Qr J (Q0 (Qz (Qy (Qy ?_))))))))))))))))); clear hK K; refine Qx (fun K hK => ?_); refine QW J J J fO0 J (QK J J J J J lInt J (Qv (hK _ _ (Qz (Q4 (Qy ?_)))))); clear hK K; refine Qx (fun K hK => ?_); refine Qk ieql J J J J (Qj J J J (Qv (hK _ _ (Qz (Qr J (Qy ?_)))))); clear hK K; refine Qx (fun K hK => ?_); refine Qk ieql J J J J (Qj J J J (Qv (hK _ _ (Qz (Qr J (Qy ?_)))))); clear hK K; refine Qx (fun K hK => ?_); refine Qk ieql J J J J (Qj J J J (Qv (hK _ _ (Qz (Xq J (Qy ?_)))))); clear hK K; refine Qx (fun K hK => ?_); refine QW J J J fO2 J (QK J J J J J lFracs J (Q3 J J sFracs.und (List.length_map ..) J (Qk ieql J J J J (Qq J J J (Qi 107 J (fun h => ?_) (fun h => ?_)))))); rotate_left
  · refine Qw J J J (Qw J J J (Qw J J J (Qw J J J (Q2 J J J J (Qq J J J (Qw J J J (Qw J J J (Qw J J J (Q2 J J J J (Qq J J J (Qw J J J (Qw J J J (Qw J J J (Qw J J J (Qw J J J (Q2 J J J J (Qj J J J (Qv (hK _ _ (Qz (QU (Q5 (QV ?_))))))))))))))))))))))); clear hK K; refine QY [_] rfl (Qu J QQ) (by dsimp only at h; rw [← hRR, decide_eq_false (show ¬ pt.length = 0 by omega)]; rfl) J
  dsimp only at h; rw [decide_eq_true (show pt.length = 0 by omega), Bool.true_and] at hRR; refine QW J J J fO3 J (QK J J J J J lFracs J (Q3 J J sFracs.und (List.length_map ..) J (Qk ieql J J J J (Q6 J J J J (Qq J J J (Qi 113 J (fun h => ?_) (fun h => ?_))))))); rotate_left
  · refine Qw J J J (Qw J J J (Qw J J J (Q2 J J J J (Qq J J J (Qw J J J (Qw J J J (Qw J J J (Qw J J J (Qw J J J (Q2 J J J J (Qj J J J (Qv (hK _ _ (Qz (QU (Q5 (QV ?_))))))))))))))))); clear hK K; refine QY [_] rfl (Qu J QQ) (by dsimp only at h; rw [← hRR, decide_eq_false (show ¬ ray.length = 0 by omega)]; rfl) J
  dsimp only at h; rw [decide_eq_true (show ray.length = 0 by omega), Bool.true_and] at hRR; refine QW J J J fO1 J (Z6 (n := 3) J J J J (Nat.le_of_ble_eq_true J) Qg J (QX gorzero hZ J J J J ?_))
  cases zb with
  | false =>
    refine Q6 J J J J (Qq J J J (Qw J J J (Qw J J J (Qw J J J (Qw J J J (Qw J J J (Q2 J J J J (Qj J J J (Qv (hK _ _ (Qz (QU (Q5 (QV ?_)))))))))))))); clear hK K; refine QY [_] rfl (Qu J QQ) (by rw [← hRR]; rfl) J
  | true =>
    refine Q6 J J J J (Qq J J J (Qq J J J (Qq J J J (QW J J J fO4 J (QK J J J J J lFracs J (QX gorRefutes hR J J J J (Q6 J J J J (Qj J J J (Qv (hK _ _ (Qz (QU (Q5 (QV ?_)))))))))))))); clear hK K; refine QY [_] rfl (Qu J QQ) (by rw [← hRR]; rfl) J
set_option maxHeartbeats 8000000 in
theorem FCheck_0 (h1 : k ≠ 1) (h2 : k ≠ 2) (h3 : k ≠ 3) : Ok Tryz.prog 44 [intC N, rowsC rs, intsC c, roC ⟨k, val, pt, ray, du⟩] (boolC false) := by
  obtain ⟨p1, p2, p3⟩ := FCheck_pre N rs c hv hc
  refine Ok.enter Tryz.func44 J _ Tryz.ntmps44 J ?_
  intro S w; refine Qy (Qx fun K hK => ?_); refine Qh 0 J J J J J J J (Qj J J J (Qv (hK _ _ (Qz (Qy (Qy ?_)))))); clear hK K; refine Qx (fun K hK => ?_); refine Qq J J J (Qq J J J (QX goLValid p1 J J J J (Qe J J J (Qq J J J (Qq J J J (Q3 J J sInts.und (List.length_map ..) J (Qq J J J (Qk igtr J J J J (Q2 J J J J (Qq J J J (Qi 21 J (fun h => absurd h (by omega)) (fun _ => ?_)))))))))))); refine Qq J J J (QX goContainsFunc_ints p3 J J J J (Q2 J J J J (Qv (hK _ _ (Qz (Qr J (Q0 (Qz (Qy (Qy ?_)))))))))); clear hK K; refine Qx (fun K hK => ?_); refine QW J J J fO0 J (QK J J J J J lInt J (Qv (hK _ _ (Qz (Q4 (Qy ?_)))))); clear hK K; refine Qx (fun K hK => ?_); refine Qk ieql J J J J (Qj J J J (Qv (hK _ _ (Qz ?_)))); clear hK K; refine Q1 J (fun h => absurd h h1) (fun _ => ?_); refine Qy (Qx fun K hK => ?_); refine Qk ieql J J J J (Qj J J J (Qv (hK _ _ (Qz ?_)))); clear hK K; refine Q1 J (fun h => absurd h h2) (fun _ => ?_); refine Qy (Qx fun K hK => ?_); refine Qk ieql J J J J (Qj J J J (Qv (hK _ _ (Qz ?_)))); clear hK K; refine Q1 J (fun h => absurd h h3) (fun _ => ?_); refine Q0 (Qz (Qy (Qx fun K hK => ?_)))
  refine Qj J J J (Qv (hK _ _ (Qz (QU ?_)))); clear hK K; refine QY [_] rfl (Qu J QQ) J J
set_option maxHeartbeats 8000000 in
theorem rCheck_0 (h1 : k ≠ 1) (h2 : k ≠ 2) (h3 : k ≠ 3) : Ok Tryz.prog 23 [intC N, rowsC rs, intsC c, roC ⟨k, val, pt, ray, du⟩] (boolC false) := by
  obtain ⟨p1, p2⟩ := rCheck_pre N rs c hv hc
  refine Ok.enter Tryz.func23 J _ Tryz.ntmps23 J ?_
  intro S w; refine Qy (Qx fun K hK => ?_); refine Qh 0 J J J J J J J (Qj J J J (Qv (hK _ _ (Qz (Qy (Qy ?_)))))); clear hK K; refine Qx (fun K hK => ?_); refine Qq J J J (Qq J J J (QX gorLValid p1 J J J J (Qe J J J (Qq J J J (Qq J J J (Qq J J J (QX gorValidGoal p2 J J J J (Qe J J J (Q2 J J J J (Qv (hK _ _ (Qz (Qr J (Q0 (Qz (Qy (Qy ?_))))))))))))))))); clear hK K; refine Qx (fun K hK => ?_); refine QW J J J fO0 J (QK J J J J J lInt J (Qv (hK _ _ (Qz (Q4 (Qy ?_)))))); clear hK K; refine Qx (fun K hK => ?_); refine Qk ieql J J J J (Qj J J J (Qv (hK _ _ (Qz ?_)))); clear hK K; refine Q1 J (fun h => absurd h h1) (fun _ => ?_); refine Qy (Qx fun K hK => ?_); refine Qk ieql J J J J (Qj J J J (Qv (hK _ _ (Qz ?_)))); clear hK K; refine Q1 J (fun h => absurd h h2) (fun _ => ?_); refine Qy (Qx fun K hK => ?_); refine Qk ieql J J J J (Qj J J J (Qv (hK _ _ (Qz ?_)))); clear hK K; refine Q1 J (fun h => absurd h h3) (fun _ => ?_); refine Q0 (Qz (Qy (Qx fun K hK => ?_))); refine Qj J J J (Qv (hK _ _ (Qz (QU ?_)))); clear hK K; refine QY [_] rfl (Qu J QQ) J J
end
structure InO (rs : List Rw) (O : Ro) : Prop where
  v : Sm O.value
  p : In35 rs O.point
  r : In35 rs O.ray
  d : In35 rs O.dual
theorem Sm.valid {f : Rf} (h : Sm f) : Ok Tryz.prog 64 [.fr (aggT (rfCs f))] (boolC (gdf f)) := Zl f.neg f.xs f.ys (by have := h.x; omega) (by have := h.y; omega)
theorem Sm.rvalid {f : Rf} (h : Sm f) : Ok Tryz.prog 55 [.fr (aggT (rfCs f))] (boolC (gdf f)) := rFValid_list f.neg f.xs f.ys (by have := h.x; omega) (by have := h.y; omega)
theorem check_raw {n : Int} {rs : List Rw} {c : List Int} {O : Ro} (h : InO rs O) (hcl : c.length ≤ 64) (hcb : ∀ y ∈ c, -9223372036854775808 ≤ y ∧ y ≤ 9223372036854775807) :
    ∃ b : Bool, Ok Tryz.prog 44 [intC n, rowsC rs, intsC c, roC O] (boolC b) ∧ Ok Tryz.prog 23 [intC n, rowsC rs, intsC c, roC O] (boolC b) := by
  obtain ⟨k, val, pt, ray, du⟩ := O; obtain ⟨hv, hp, hr, hd⟩ := h; dsimp only at hv hp hr hd; have hrl := hp.rl; have l1 := hp.zl; have l2 := hr.zl; have l3 := hd.zl
  cases hok : (validR n rs && okCoeffs n c) with
  | false => exact ⟨false, FCheck_no (by omega) hp.cl (by omega) hok, rCheck_no (by omega) hp.cl (by omega) hok⟩
  | true =>
    rw [Bool.and_eq_true] at hok; obtain ⟨hV, hC⟩ := hok; obtain ⟨N, rfl⟩ : ∃ N : Nat, n = N := ⟨n.toNat, by have := (X4 hV).1; omega⟩; obtain ⟨sb, s1, s2, s3⟩ := sat_raw (n := N) hp; by_cases k1 : k = 1
    · subst k1; obtain ⟨bb, b1, b2⟩ := bounds_raw (n := N) (c := c) hd val hv hcl hcb; by_cases hx : gdf val = true ∧ sb = true
      · obtain ⟨hx1, hx2⟩ := hx; obtain ⟨gs, rfl, hgl, hg⟩ := s3 hx2; obtain ⟨g, hgg, rfl⟩ := gdf_fr hv hx1
        have cbb : ∀ i, -9223372036854775808 ≤ c.getD i 0 ∧ c.getD i 0 ≤ 9223372036854775807 := fun i => by
          rcases Nat.lt_or_ge i c.length with h4 | h4
          · exact hcb _ (Xj (z := (0 : Int)) h4)
          · rw [getD_ge h4]; decide
        have f1 := vfit9 c gs (by omega) cbb hgl hg; have hs : SzQ (vsum c gs) := ⟨by have := f1.2.1; omega, by have := f1.2.2; omega⟩; have w1 := Value_gen c gs f1.1; have w2 := rValue_gen c gs f1.1; have q1 := FCheck_1 (ray := ray) hV hC (by omega) hv.valid s1 (fun _ _ => ⟨by rw [rfs_of]; exact w1, less_F _ g hs.vf hgg.vf, less_F g _ hgg.vf hs.vf⟩) b1; have q2 := rCheck_1 (ray := ray) hV hC (by omega) hv.rvalid s2 (fun _ _ => ⟨by rw [rfs_of]; exact w2, rFCompare_F _ g hs.vf hgg.vf⟩) b2; refine ⟨_, q1, ?_⟩
        have e : (!decide (cmpF (ofQ (vsum c gs)) g < 0) && (!decide (cmpF g (ofQ (vsum c gs)) < 0) && bb)) = (decide (cmpF (ofQ (vsum c gs)) g = 0) && bb) := by
          rw [cmpF_flip (ofQ (vsum c gs)) g]; generalize cmpF (ofQ (vsum c gs)) g = z; by_cases z1 : z < 0
          · rw [decide_eq_true z1, decide_eq_false (show ¬ z = 0 by omega)]; rfl
          · by_cases z2 : -z < 0
            · rw [decide_eq_true z2, decide_eq_false (show ¬ z = 0 by omega), decide_eq_false z1]; rfl
            · rw [decide_eq_false z2, decide_eq_true (show z = 0 by omega), decide_eq_false z1]; rfl
        rw [e]; exact q2
      · have q1 := FCheck_1 (ray := ray) (v := fr0) (b1 := false) (b2 := false) hV hC (by omega) hv.valid s1 (fun h1 h2 => absurd ⟨h1, h2⟩ hx) b1; have q2 := rCheck_1 (ray := ray) (v := fr0) (kk := 0) hV hC (by omega) hv.rvalid s2 (fun h1 h2 => absurd ⟨h1, h2⟩ hx) b2; exact ⟨_, q1, q2⟩
    by_cases k2 : k = 2
    · subst k2; obtain ⟨gb, g1, g2⟩ := grow_raw (c := c) hr hV hC; exact ⟨_, FCheck_2 hV hC (by omega) (zero_raw val hv) s1 g1, rCheck_2 hV hC (by omega) (rzero_raw val hv) s2 g2⟩
    by_cases k3 : k = 3
    · subst k3; obtain ⟨gb, g1, g2⟩ := refutes_raw (n := N) hd; exact ⟨_, FCheck_3 hV hC (by omega) (by omega) (zero_raw val hv) g1, rCheck_3 hV hC (by omega) (by omega) (rzero_raw val hv) g2⟩
    exact ⟨false, FCheck_0 hV hC k1 k2 k3, rCheck_0 hV hC k1 k2 k3⟩
theorem gorFSub : InGo Tryz.prog 86 := InGo.of Tryz.func86 (by kernel_rfl) (by kernel_rfl)
set_option maxHeartbeats 4000000 in
theorem rFSub_q (p q : Rat) (a1 : (limbs (ofQ p).num).length ≤ 20) (a2 : (limbs (ofQ p).den).length ≤ 20) (a3 : (limbs (ofQ q).num).length ≤ 20) (a4 : (limbs (ofQ q).den).length ≤ 20) :
    Ok Tryz.prog 86 [ratC p, ratC q] (.fr (tupT [ratC (p - q), intC 0])) := by
  have b3 : (limbs (ofQ (-q)).num).length ≤ 20 := by rw [← oppF_q]; exact a3
  have b4 : (limbs (ofQ (-q)).den).length ≤ 20 := by rw [← oppF_q]; exact a4
  have d1 := Xp p; have d2 := Xp (-q); have hO := rOpposite_ok (ofQ q); rw [oppF_q] at hO; have hadd := redF_add (ofQ p) (ofQ (-q)) d1 d2; rw [Y6, Y6, ← Rat.sub_eq_add_neg] at hadd; show Ok Tryz.prog 86 [fracC (ofQ p), fracC (ofQ q)] (.fr (tupT [ratC (p - q), intC 0])); generalize ofQ (-q) = h at *; generalize ofQ p = f at *; have hp := Nat.mul_pos d1 d2; have l1 : (limbs (f.num * h.den)).length ≤ 63 := Nat.le_trans X2 (by omega); have l2 : (limbs (h.num * f.den)).length ≤ 63 := Nat.le_trans X2 (by omega); have l3 := sumN_len (n1 := f.neg) (n2 := h.neg) l1 l2; have l8 := X2 (a := f.den) (b := h.den); have l4 := Y2 (sumS f.neg (f.num * h.den) h.neg (h.num * f.den)) (sumN f.neg (f.num * h.den) h.neg (h.num * f.den)) _ hp; have l5 := redF_neg (sumS f.neg (f.num * h.den) h.neg (h.num * f.den)) (sumN f.neg (f.num * h.den) h.neg (h.num * f.den)) (f.den * h.den); have l6 : (limbs (redF (sumS f.neg (f.num * h.den) h.neg (h.num * f.den)) (sumN f.neg (f.num * h.den) h.neg (h.num * f.den)) (f.den * h.den)).num).length ≤ 64 := div_len l3; have l7 := Xu l4.2; have hs := rsum_ok f h (by omega) (by omega) (by omega) (by omega) d1 d2; have hV : VF (redF (sumS f.neg (f.num * h.den) h.neg (h.num * f.den)) (sumN f.neg (f.num * h.den) h.neg (h.num * f.den)) (f.den * h.den)) := ⟨l6, by omega, l4.1, l5⟩; rw [hadd] at hs hV; have hl := limited_ok _ hV
  refine Ok.enter Tryz.func86 J _ Tryz.ntmps86 J ?_
  intro S w; refine Qy (Qx fun K hK => ?_); refine Qh 0 J J J J J J J (Qh 1 J J J J J J J (Qa 2 J J zvFrac J J J (Qj J J J (Qv (hK _ _ (Qz (Qy ?_))))))); clear hK K; refine Xz mixed 7 (.f 0 (.f 1 (.m 2 (.m 3 (.m 4 (.p 5 (.p 6 (.a 7 (.p 8 .done))))))))) (by kernel_rfl) (fun K hK => ?_); refine Qd (n := 3) J J J J J Qg J (Qd (n := 3) J J J J J Qg J (QX gorOpposite hO J J J J (QX gorsum hs J J J J (QX golimited hl J J J J (QZ J J J J (QZ J J J J (Q8 3 J J J J J szFrac J J (Qj J J J (Qv (hK _ _ (Qz (QU ?_)))))))))))); clear hK K; refine QY [_, _] rfl (Qp (n := 3) J J Qg J (Qu J QQ)) J J
theorem qv_inv {q : Rat} (h : q ≠ 0) : qv ⟨(ofQ q).neg, (ofQ q).den, (ofQ q).num⟩ = q⁻¹ := by
  show mkRat (sg (decide (q.num < 0)) q.den) q.num.natAbs = q⁻¹
  have hn : q.num ≠ 0 := fun e => h (Rat.num_eq_zero.1 e)
  rw [Rat.inv_def]; unfold sg; rcases Int.lt_or_gt_of_ne hn with h1 | h1
  · rw [decide_eq_true h1, if_pos J, ← Rat.divInt_ofNat, show ((q.num.natAbs : Nat) : Int) = -q.num by omega, Rat.divInt_neg', Int.neg_neg]
  · rw [decide_eq_false (show ¬ q.num < 0 by omega), if_neg (by decide), ← Rat.divInt_ofNat, show ((q.num.natAbs : Nat) : Int) = q.num by omega]
theorem gorFDiv : InGo Tryz.prog 138 := InGo.of Tryz.func138 (by kernel_rfl) (by kernel_rfl)
set_option maxHeartbeats 4000000 in
theorem rFDiv_q (p q : Rat) (hq : q ≠ 0) (a1 : (limbs (ofQ p).num).length ≤ 20) (a2 : (limbs (ofQ p).den).length ≤ 20) (a3 : (limbs (ofQ q).num).length ≤ 20) (a4 : (limbs (ofQ q).den).length ≤ 20) :
    Ok Tryz.prog 138 [ratC p, ratC q] (.fr (tupT [ratC (p / q), intC 0])) := by
  have hn : 0 < (ofQ q).num := by
    show 0 < q.num.natAbs
    have : q.num ≠ 0 := fun e => hq (Rat.num_eq_zero.1 e)
    omega
  have hM := rFMul_gen (ofQ p) ⟨(ofQ q).neg, (ofQ q).den, (ofQ q).num⟩ (by show _ + (limbs (ofQ q).den).length ≤ 64; omega) (by show _ + (limbs (ofQ q).num).length ≤ 64; omega) (Xp p) hn; rw [Y6, qv_inv hq, ← Rat.div_def] at hM; have hlen := limbs_len_pos (n := (ofQ q).num); show Ok Tryz.prog 138 [ratC p, fracC (ofQ q)] (.fr (tupT [ratC (p / q), intC 0])); generalize ofQ q = h at *
  refine Ok.enter Tryz.func138 J _ Tryz.ntmps138 J ?_
  intro S w; refine Qy (Qx fun K hK => ?_); refine Qh 0 J J J J J J J (Qh 1 J J J J J J J (Qa 2 J J zvFrac J J J (Qj J J J (Qv (hK _ _ (Qz (Qy (Qy ?_)))))))); clear hK K; refine Qx (fun K hK => ?_); refine QW J J J fF1 J (QK J J J J J lNat J (Q3 J J sNat.und (List.length_map ..) J (Qk ieql J J J J (Qv (hK _ _ (Qz ?_)))))); clear hK K; refine Q1 J (fun h0 => absurd h0 (by omega)) (fun _ => ?_); refine Q0 (Qz (Qy (Qx fun K hK => ?_))); refine Qd (n := 3) J J J J J Qg J (QW J J J fF0 J (QK J J J J J lBool J (QW J J J fF2 J (QK J J J J J lNat J (QW J J J fF1 J (QK J J J J J lNat J (Xa J bFrac J (.one J J J J (.one J J J J (.one J J J J .nil))) J (QX gorFMul hM J J J J (QZ J J J J (QZ J J J J (Q8 3 J J J J J szFrac J J (Qj J J J (Qv (hK _ _ (Qz (QU ?_)))))))))))))))); clear hK K; refine QY [_, _] rfl (Qp (n := 3) J J Qg J (Qu J QQ)) J J
theorem gorFReduce : InGo Tryz.prog 87 := InGo.of Tryz.func87 (by kernel_rfl) (by kernel_rfl)
theorem rFReduce_q (q : Rat) (a3 : (limbs (ofQ q).num).length ≤ 20) (a4 : (limbs (ofQ q).den).length ≤ 20) : Ok Tryz.prog 87 [ratC q] (ratC q) := by
  have hr := rreduced_ok (ofQ q).neg (ofQ q).num (ofQ q).den (Xp q) (by omega) (by omega)
  have e : redF (ofQ q).neg (ofQ q).num (ofQ q).den = ofQ q := by
    rw [redF_q _ _ _ (Xp q)]; exact congrArg ofQ (Y6 q)
  rw [e] at hr
  refine Ok.enter Tryz.func87 J _ Tryz.ntmps87 J ?_
  intro S w; refine Qy (Qx fun K hK => ?_); refine Qh 0 J J J J J J J (Qa 1 J J zvFrac J J J (Qv (hK _ _ (Qz (Qy ?_))))); clear hK K; refine Qx (fun K hK => ?_); refine QW J J J fF0 J (QK J J J J J lBool J (QW J J J fF1 J (QK J J J J J lNat J (QW J J J fF2 J (QK J J J J J lNat J (QX gorreduced hr J J J J (Q8 3 J J J J J szFrac J J (Qv (hK _ _ (Qz (QU ?_))))))))))); clear hK K; refine QY [_] rfl (Qp (n := 3) J J Qg J QQ) J J
end Go.Proofs.YtdhmbgogmoaofaaGreat
namespace Go.Det
variable {A : Nat → Vec} {V : Vec → Prop} {M : Nat} {bs : List Nat}
def rq (A : Nat → Vec) (bs : List Nat) (i : Nat) (x : Vec) : Rat := ((dT A bs i x : Int) : Rat) / ((dD A bs : Int) : Rat)
theorem ratc_ne {z : Int} (h : z ≠ 0) : (z : Rat) ≠ 0 := fun e => h (Rat.intCast_inj.1 e)
theorem rq_ne {r : Nat} {x : Vec} (h : rq A bs r x ≠ 0) : dT A bs r x ≠ 0 := fun e => h (by unfold rq; rw [e]; exact Rat.zero_mul _)
theorem rq_piv_r (hne : dD A bs ≠ 0) {r s : Nat} (hp : rq A bs r (A s) ≠ 0) (x : Vec) : rq A (bs.set r s) r x = rq A bs r x / rq A bs r (A s) := by
  have h1 := ratc_ne hne; have h2 := ratc_ne (rq_ne hp); unfold rq; rw [piv_D, piv_r]; generalize ((dD A bs : Int) : Rat) = d at *; generalize ((dT A bs r (A s) : Int) : Rat) = p at *; generalize ((dT A bs r x : Int) : Rat) = y at *
  grind
theorem Bas.rq_piv_i (h : Bas A V M bs) {r s i : Nat} (hr : r < M) (hi : i < M) (hir : i ≠ r) {x : Vec} (hx : V x) (hp : rq A bs r (A s) ≠ 0) :
    rq A (bs.set r s) i x = rq A bs i x - rq A bs i (A s) * (rq A bs r x / rq A bs r (A s)) := by
  have h1 := ratc_ne h.ne; have h2 := ratc_ne (rq_ne hp); have h3 := h.piv_i (s := s) hr hi hir hx
  have h4 : ((dD A bs : Int) : Rat) * ((dT A (bs.set r s) i x : Int) : Rat) = ((dT A bs r (A s) : Int) : Rat) * ((dT A bs i x : Int) : Rat) - ((dT A bs r x : Int) : Rat) * ((dT A bs i (A s) : Int) : Rat) := by
    rw [← Rat.intCast_mul, ← Rat.intCast_mul, ← Rat.intCast_mul, ← Rat.intCast_sub, h3]
  unfold rq; rw [piv_D]; generalize ((dD A bs : Int) : Rat) = d at *; generalize ((dT A bs r (A s) : Int) : Rat) = p at *; generalize ((dT A bs r x : Int) : Rat) = y at *; generalize ((dT A bs i x : Int) : Rat) = z at *; generalize ((dT A bs i (A s) : Int) : Rat) = u at *; generalize ((dT A (bs.set r s) i x : Int) : Rat) = v at *
  grind
end Go.Det
namespace Go.Proofs.YtdhmbgogmoaofaaGreat
open Go.Own Go.Limbs Go.Det
theorem rq_shq {A : Nat → Vec} {bs : List Nat} {i : Nat} {x : Vec} (hne : dD A bs ≠ 0) : rq A bs i x = shq (tt A bs i x) (Go.Det.den A bs) := by
  have hd := den_pos hne
  have e : shq (tt A bs i x) (Go.Det.den A bs) = ((tt A bs i x : Int) : Rat) / ((Go.Det.den A bs : Int) : Rat) := by
    unfold shq; rw [Rat.mkRat_eq_div, show ((Go.Det.den A bs).natAbs : Rat) = (((Go.Det.den A bs).natAbs : Int) : Rat) from rfl, show (((Go.Det.den A bs).natAbs : Nat) : Int) = Go.Det.den A bs by omega]
  rw [e]; unfold rq tt Go.Det.den; rw [Rat.intCast_mul, Rat.intCast_mul]; have h1 := ratc_ne hne; have h2 : (((dD A bs).sign : Int) : Rat) ≠ 0 := ratc_ne (fun e => by have := sgn_sq hne; rw [e] at this; simp at this); generalize ((dD A bs : Int) : Rat) = d at *; generalize (((dD A bs).sign : Int) : Rat) = s at *; generalize ((dT A bs i x : Int) : Rat) = y at *
  grind
end Go.Proofs.YtdhmbgogmoaofaaGreat
namespace Go.Proofs.YtdhmbgogmoaofaaGreat
open Go.Own Go.Limbs
attribute [local irreducible] St Ops Go.Own.Fin Ok
structure Q9 (q : Rat) : Prop where
  n : (limbs (ofQ q).num).length ≤ 9
  d : (limbs (ofQ q).den).length ≤ 9
theorem mul_lens (p q : Rat) : (limbs (ofQ (p * q)).num).length ≤ (limbs (ofQ p).num).length + (limbs (ofQ q).num).length ∧ (limbs (ofQ (p * q)).den).length ≤ (limbs (ofQ p).den).length + (limbs (ofQ q).den).length := by
  have h := redF_mul (ofQ p) (ofQ q) (Xp p) (Xp q); rw [Y6, Y6] at h; rw [← h]; have h2 := Y2 ((ofQ p).neg != (ofQ q).neg) ((ofQ p).num * (ofQ q).num) ((ofQ p).den * (ofQ q).den) (Nat.mul_pos (Xp p) (Xp q)); exact ⟨div_len X2, Nat.le_trans (Xu h2.2) X2⟩
theorem q_zero {q : Rat} (h : (limbs (ofQ q).num).length = 0) : q = 0 := by
  have h1 := limbs_len_pos (n := (ofQ q).num)
  refine Rat.num_eq_zero.1 ?_
  have : (ofQ q).num = q.num.natAbs := rfl; omega
theorem frR_rats (e : Nat) (qs : List Rat) : (Ent.row e 3 (frR (qs.map some))).frozen (sliceT 3 (qs.map fun q => frCs (ofQ q))) :=
  ⟨_, by unfold frR; simp only [List.map_map]; rfl, fun x hx => by obtain ⟨f, _, rfl⟩ := List.mem_map.1 hx; rfl, by decide, rfl⟩
def upO (v : Nat → Rat) (n i : Nat) : List (Option Rat) := (List.range n).map fun j => if j < i then some (v j) else none
theorem Yh (v : Nat → Rat) (n i : Nat) : (upO v n i).length = n := by simp [upO]
theorem upO_zero (v : Nat → Rat) (n : Nat) : upO v n 0 = List.replicate n none := by
  unfold upO
  apply List.ext_getElem?
  intro j; simp [List.getElem?_map, List.getElem?_replicate]
  split <;> simp_all
theorem upO_set (v : Nat → Rat) {n i : Nat} (h : i < n) : (upO v n i).set i (some (v i)) = upO v n (i + 1) := by
  unfold upO
  apply List.ext_getElem?
  intro j; rw [List.getElem?_set]; by_cases hj : i = j
  · subst hj; simp [h]
  · rw [if_neg hj]; simp only [List.getElem?_map]
    cases e : (List.range n)[j]? with
    | none => rfl
    | some x =>
      obtain ⟨h1, h2⟩ := List.getElem?_eq_some_iff.1 e; simp at h2; subst h2; simp only [Option.map_some]
      congr 1
      by_cases h3 : j < i
      · rw [if_pos h3, if_pos (by omega)]
      · rw [if_neg h3, if_neg (by omega)]
theorem upO_done (v : Nat → Rat) (n : Nat) : upO v n n = ((List.range n).map v).map some := by
  unfold upO; rw [List.map_map]
  exact List.map_congr_left fun j hj => by rw [if_pos (List.mem_range.1 hj)]; rfl
def lessV (a : List Rat) (k : Rat) (b : List Rat) (j : Nat) : Rat := a.getD j 0 - k * b.getD j 0
theorem goless34 : InGo Tryz.prog 85 := InGo.of Tryz.func85 (by kernel_rfl) (by kernel_rfl)
set_option maxHeartbeats 8000000 in
theorem less34_ok (a b : List Rat) (k : Rat) (hl : b.length = a.length) (h1000 : a.length ≤ 1000) (ha : ∀ q ∈ a, Q9 q) (hb : ∀ q ∈ b, Q9 q) (hk : Q9 k) :
    Ok Tryz.prog 85 [ratsC a, ratC k, ratsC b] (ratsC ((List.range a.length).map (lessV a k b))) := by
  refine Ok.enter Tryz.func85 J _ Tryz.ntmps85 J ?_
  intro S w; refine Qy (Qx fun K hK => ?_); refine Qh 0 J J J J J J J (Qj J J J (Qv (hK _ _ (Qz (Qy ?_))))); clear hK K; refine Qx (fun K hK => ?_); refine Qq J J J (Q3 J J sFracs.und (List.length_map ..) J (Z5 1 a.length J J J J sFracs (by omega) (by omega) J J J ?_)); rw [frR_made, ← upO_zero (lessV a k b)]; refine Qj J J J (Qv (hK _ _ (Qz (Qy (Qy ?_))))); clear hK K; refine Qx (fun K hK => ?_); refine Qj J J J (Qv (hK _ _ (Qz (Q4 ?_)))); clear hK K
  refine Qn (α := Nat) (fun i => i ≤ a.length)
    (fun i => [(0, .ct (ratsC a)), (2, .ct (ratsC b)), (4, .own 0), (7, .own 1), (8, .ct (intC i))])
    (fun i => [(1, .row 38 3 (frR (upO (lessV a k b) a.length i))), (0, .box 38 (frCs (ofQ k)))]) (fun i => a.length - i) 0 (Nat.zero_le _) (by exact QJ J ⟨rfl, rfl, rfl, rfl, rfl, trivial⟩) ?_
  intro i hi
  (try dsimp only at hi ⊢)
  refine Qy (Qy (Qx fun K hK => ?_)); refine Qq J J J (Qq J J J (Q3 J J sFracs.und (List.length_map ..) J (Qk ilss J J J J (Qv (hK _ _ (Qz ?_)))))); clear hK K; refine Q1 J (fun h => ?_) (fun h => ?_)
  · have e2 : (i : Int).toNat = i := Int.toNat_natCast i
    have hlt : i < a.length := by omega
    have qa := ha _ (Xj (z := (0 : Rat)) hlt); have qb := hb _ (Xj (z := (0 : Rat)) (show i < b.length by omega)); have eset := upO_set (lessV a k b) hlt; have ev : lessV a k b i = a.getD i 0 - k * b.getD i 0 := rfl; rw [ev] at eset
    have hidx : (frR (upO (lessV a k b) a.length i)).length = a.length * 3 := by rw [ZW, Yh]
    refine Q0 (Qz (Qy (Q4 (Qy (Qy (Qx fun K hK => ?_)))))); refine Qq J J J (Qq J J J (Qc J J J sFracs (by omega) (Xl (by omega) (by omega)) J ?_)); refine ZJ J J fF1 J (Ql J J J lNat J (Q3 J J sNat.und (List.length_map ..) J (Qk ieql J J J J (Qv (hK _ _ (Qz ?_)))))); clear hK K; rw [e2]; skip; refine Q1 J (fun h0 => ?_) (fun h0 => ?_)
    · have hz : b.getD i 0 = 0 := q_zero (by omega); rw [hz, Rat.mul_zero, Rat.sub_eq_add_neg, Rat.neg_zero, Rat.add_zero] at eset; refine Qy (Qx fun K hK => ?_); refine Qq J J J (Qq J J J (Qq J J J (Qq J J J (Qc J J J sFracs (by omega) (Xl (by omega) (by omega)) J ?_))))
      refine Xk (n := 3) J J J Qg J J ?_
      rw [e2]; skip
      refine XX a.length J J J hidx J sFracs (by omega) (by omega) J ?_
      rw [e2]
      refine stFr J J J J (by rw [Yh]; exact hlt) szFrac ?_
      rw [eset]; refine Qv (hK _ _ (Qz (Qm (Qz ?_)))); clear hK K; refine Qx (fun K hK => ?_); refine Qq J J J (Qk (iadd (by omega) (by omega)) J J J J ?_); refine Qj J J J (Qv (hK _ _ (Q7 ?_))); clear hK K; refine Qb (i + 1) (by omega) (by omega) (by exact QJ J ⟨rfl, rfl, rfl, rfl, by simp only [Int.natCast_add]; rfl, trivial⟩)
    · have ml := mul_lens k (b.getD i 0); have kn := hk.n; have kd := hk.d; have bn := qb.n; have bd := qb.d; have an := qa.n; have ad := qa.d; have hM := rFMul_gen (ofQ k) (ofQ (b.getD i 0)) (by omega) (by omega) (Xp _) (Xp _); rw [Y6, Y6] at hM; have hS := rFSub_q (a.getD i 0) (k * b.getD i 0) (by omega) (by omega) (by omega) (by omega); refine Q0 (Qz (Qy ?_)); refine Xz mixed 10 (.p 1 (.p 2 (.p 3 (.f 0 (.f 4 (.fork 5 (.p 6 (.p 7 (.p 8 (.m 9 (.a 10 (.p 11 .done)))))) 9 (.m 5 (.p 6 (.p 7 (.p 8 (.a 10 (.p 11 .done)))))))))))) (by kernel_rfl) (fun K hK => ?_); refine (fun (cont : Go.Own.Fin _ [(0, .ct (ratsC a)), (2, .ct (ratsC b)), (4, .own 0), (7, .own 1), (8, .ct (intC i)), (9, .own 2)] [(2, .box 38 (frCs (ofQ (k * b.getD i 0)))), (1, .row 38 3 (frR (upO (lessV a k b) a.length i))), (0, .box 38 (frCs (ofQ k)))] K) => ?_) (hK _ _ ?_); rotate_left
      · clear hK K; refine Qz (Xz mixed 12 (.p 0 (.p 1 (.p 2 (.p 3 (.p 4 (.f 5 (.f 6 (.m 7 (.p 8 (.p 9 (.p 10 (.p 11 (.a 12 .done))))))))))))) (by kernel_rfl) (fun K hK => ?_)); refine Qq J J J (Qq J J J (Qq J J J (Qq J J J (Qc J J J sFracs (by omega) (Xl (by omega) (by omega)) J ?_)))); refine Xk (n := 3) J J J Qg J J (Qd (n := 3) J J J J J Qg J ?_); rw [e2]; skip; refine QX gorFSub hS J J J J (Qq J J J (QZ J J J J (QZ J J J J (XX a.length J J J hidx J sFracs (by omega) (by omega) J ?_)))); rw [e2]
        refine stFr J J J J (by rw [Yh]; exact hlt) szFrac ?_
        rw [eset]; refine Qv (hK _ _ (Qz ?_)); clear hK K; refine Qx (fun K hK => ?_); refine Qq J J J (Qk (iadd (by omega) (by omega)) J J J J ?_); refine Qj J J J (Qv (hK _ _ (Q7 ?_))); clear hK K; refine Xy 2 (Qb (i + 1) (by omega) (by omega) (by exact QJ J ⟨rfl, rfl, rfl, rfl, by simp only [Int.natCast_add]; rfl, trivial⟩))
      clear hK; refine Qq J J J (Qq J J J (Qc J J J sFracs (by omega) (Xl (by omega) (by omega)) J ?_)); refine Qd (n := 3) J J J J J Qg J (Xk (n := 3) J J J Qg J J ?_); rw [e2]; skip
      refine Y0 ?_ ?_
      · refine QX gorFMul hM J J J J (Qq J J J (QZ J J J J (QZ J J J J (Qa 2 J J zvFrac J J J (Q8 3 J J J J J szFrac J J (Qj J J J ?_)))))); exact Qv (Za cont ⟨rfl, rfl, rfl, rfl, rfl, rfl, trivial⟩)
      · refine Qa 2 J J zvFrac J J J (QX gorFMul hM J J J J (Qq J J J (QZ J J J J (QZ J J J J (Q8 3 J J J J J szFrac J J (Qj J J J ?_)))))); exact Qv (Za cont ⟨rfl, rfl, rfl, rfl, rfl, rfl, trivial⟩)
  · have hi' : i = a.length := by omega
    subst hi'; rw [upO_done]; refine X6 1 _ J (frR_rats _ _) XV (Qm (Qz (Qy (Qx fun K hK => ?_)))); refine Qq J J J (Qj J J J (Qv (hK _ _ (Qz (QU ?_))))); clear hK K; refine QY [_] rfl (Qu J QQ) J J
theorem gozeros34 : InGo Tryz.prog 80 := InGo.of Tryz.func80 (by kernel_rfl) (by kernel_rfl)
end Go.Proofs.YtdhmbgogmoaofaaGreat
namespace Go.Own
open Go.RowKit
variable {X : Ctx} {L : AL} {B : BL} {ops : Array Oper} {K : Act → World → Prop} {r : Pl} {k : Kd}
  {x y z : Operand} {d : Nat} {t t2 t' : TypeId} {pos : String} {af : Array Edge} {g : Option (Nat × Bool)}
section
variable {α : Type} {f : α → List CT} {n : Nat}
theorem el_len (hf : ∀ a, (f a).length = n) (l : List α) : (l.map f).flatten.length = l.length * n := by
  rw [Xm (k := n) (fun e he => by obtain ⟨m, _, rfl⟩ := List.mem_map.mp he; exact hf m)]; simp
theorem el_take (hf : ∀ a, (f a).length = n) (l : List α) (i : Nat) : (l.map f).flatten.take (i * n) = ((l.take i).map f).flatten := by
  induction l generalizing i with
  | nil => simp
  | cons c l ih =>
    cases i with
    | zero => simp
    | succ i =>
      rw [List.map_cons, List.flatten_cons, List.take_succ_cons, List.map_cons, List.flatten_cons, List.take_append, List.take_of_length_le (by rw [hf, Nat.succ_mul]; omega), ← ih]
      congr 2; rw [hf, Nat.succ_mul]; omega
theorem el_drop (hf : ∀ a, (f a).length = n) (l : List α) (i : Nat) : (l.map f).flatten.drop (i * n) = ((l.drop i).map f).flatten := by
  induction l generalizing i with
  | nil => simp
  | cons c l ih =>
    cases i with
    | zero => simp
    | succ i =>
      rw [List.map_cons, List.flatten_cons, List.drop_succ_cons, List.drop_append, List.drop_of_length_le (by rw [hf, Nat.succ_mul]; omega), List.nil_append, ← ih]
      congr 1; rw [hf, Nat.succ_mul]; omega
theorem el_get (hf : ∀ a, (f a).length = n) {l : List α} {i : Nat} (z : α) (h : i < l.length) : ((l.map f).flatten.drop (i * n)).take n = f (l.getD i z) := by
  rw [el_drop hf]
  conv => lhs; rw [← Nat.one_mul n]
  rw [el_take hf]
  have : (l.drop i).take 1 = [l.getD i z] := by
    rw [List.getD_eq_getElem?_getD, List.getElem?_eq_getElem h, List.drop_eq_getElem_cons h]; rfl
  rw [this]; simp
theorem el_cell (hf : ∀ a, (f a).length = n) {l : List α} {i o : Nat} (z : α) (h : i < l.length) (ho : o < n) : (l.map f).flatten[i * n + o]? = (f (l.getD i z))[o]? := by
  rw [← el_get hf z h, List.getElem?_take, if_pos ho, List.getElem?_drop]
theorem ldE {i j : Nat} {e : Ent} {l : List α} (f : α → List CT) (z : α) (hf : ∀ a, (f a).length = n) (hk : k.rd = true) (hg : gd ops L g = some true) (hx : ev L x = some (.loc i (j * n))) (hi : bget B i = some e) (he : e.cs = (l.map f).flatten) (hj : j < l.length) (hT : LdN X.P t n) (hn : Nat.blt d X.n = true)
    (h : Ops X ops r ((d, .ct (.fr (aggT (f (l.getD j z))))) :: L) B K) : Ops X ops (.cons ⟨some d, .load t x, t', pos, af, g⟩ k r) L B K :=
  Z6 hk hg hx hi (by rw [he, el_len hf, ← Nat.succ_mul]; exact Nat.mul_le_mul_right _ hj) hT hn (by rw [he, el_get hf z hj]; exact h)
end
end Go.Own
namespace Go.Proofs.YtdhmbgogmoaofaaGreat
open Go.Own Go.Limbs
attribute [local irreducible] St Ops Go.Own.Fin Ok OkM
theorem sRat2 : SlcT Tryz.prog 34 25 1 24 (.slice none 0 0) := SlcT.of Tryz.underlying34 (by kernel_rfl) rfl (by decide)
theorem lRat2 : Ld1 Tryz.prog 34 := Ld1.of _ Tryz.underlying34 rfl
theorem lRat1 : Ld1 Tryz.prog 25 := Ld1.of _ Tryz.underlying25 rfl
theorem zFracs : (Tryz.prog.info? 25).map (·.size) = some 1 := by kernel_rfl
theorem fG0 : fldInfo Tryz.prog 102 0 = some (0, some 1) := by kernel_rfl
theorem fG1 : fldInfo Tryz.prog 102 1 = some (1, some 1) := by kernel_rfl
theorem fG2 : fldInfo Tryz.prog 102 2 = some (2, some 1) := by kernel_rfl
theorem fG3 : fldInfo Tryz.prog 102 3 = some (3, some 1) := by kernel_rfl
theorem fG4 : fldInfo Tryz.prog 102 4 = some (4, some 1) := by kernel_rfl
theorem zvTab : (Tryz.prog.info? 102).map (·.zero) = some (some (.agg #[.int .i64 0, .int .i64 0, .slice none 0 0, .slice none 0 0, .slice none 0 0])) := by kernel_rfl
theorem lTab : LdN Tryz.prog 102 5 := LdN.of _ Tryz.underlying102 rfl (by kernel_rfl)
theorem szTab5 : (Tryz.prog.info? 102).map (·.size) = some 5 := by kernel_rfl
abbrev taCs (n m : Nat) (hr : Value) (goal : List Rat) (hb : Value) : List CT := [intC n, intC m, .ex hr, ratsC goal, .ex hb]
abbrev taC (n m : Nat) (hr : Value) (goal : List Rat) (hb : Value) : CT := .fr (aggT (taCs n m hr goal hb))
def rowsR (rows : List (List Rat)) : List CT := rows.map ratsC
theorem rowsR_len (rows : List (List Rat)) : (rowsR rows).length = rows.length * 1 := by simp [rowsR]
theorem rowsR_at {rows : List (List Rat)} {i : Nat} (h : i < rows.length) : (rowsR rows)[i]? = some (ratsC (rows.getD i [])) := by
  unfold rowsR; rw [List.getElem?_map, List.getElem?_eq_getElem h, List.getD_eq_getElem?_getD, List.getElem?_eq_getElem h]; rfl
theorem rowsR_set (rows : List (List Rat)) (i : Nat) (q : List Rat) : (rowsR rows).set i (ratsC q) = rowsR (rows.set i q) := by unfold rowsR; rw [List.map_set]
def mixR (rows rows' : List (List Rat)) (i k : Nat) : List (List Rat) := (List.range rows.length).map fun q => if q < k ∨ q = i then rows'.getD q [] else rows.getD q []
theorem mixR_len (rows rows' : List (List Rat)) (i k : Nat) : (mixR rows rows' i k).length = rows.length := by simp [mixR]
theorem mixR_at {rows rows' : List (List Rat)} {i k q : Nat} (h : q < rows.length) : (mixR rows rows' i k).getD q [] = if q < k ∨ q = i then rows'.getD q [] else rows.getD q [] := by
  unfold mixR; simp [List.getD_eq_getElem?_getD, List.getElem?_map, h]
theorem mixR_set {rows rows' : List (List Rat)} {i k : Nat} (h : k < rows.length) : (mixR rows rows' i k).set k (rows'.getD k []) = mixR rows rows' i (k + 1) := by
  unfold mixR
  apply List.ext_getElem?
  intro q; rw [List.getElem?_set]; by_cases hq : k = q
  · subst hq; simp [h]
  · rw [if_neg hq]; simp only [List.getElem?_map]
    cases e : (List.range rows.length)[q]? with
    | none => rfl
    | some x =>
      obtain ⟨h1, h2⟩ := List.getElem?_eq_some_iff.1 e; simp at h2; subst h2; simp only [Option.map_some]
      congr 1
      by_cases h3 : q < k ∨ q = i
      · rw [if_pos h3, if_pos (by omega)]
      · rw [if_neg h3, if_neg (by omega)]
theorem mixR_skip {rows rows' : List (List Rat)} {i k : Nat} (h : k < rows.length) (he : k = i ∨ rows.getD k [] = rows'.getD k []) : mixR rows rows' i k = mixR rows rows' i (k + 1) := by
  rw [← mixR_set h]; refine (Go.Det.set_same ?_).symm; have h1 := mixR_at (rows := rows) (rows' := rows') (i := i) (k := k) h
  have h2 : (mixR rows rows' i k)[k]? = some ((mixR rows rows' i k).getD k []) := by
    rw [List.getD_eq_getElem?_getD, List.getElem?_eq_getElem (by rw [mixR_len]; exact h)]; rfl
  rw [h2, h1]; rcases he with he | he
  · rw [if_pos (.inr he)]
  · split
    · rfl
    · rw [he]
theorem mixR_first {rows rows' : List (List Rat)} {i : Nat} (h : i < rows.length) : rows.set i (rows'.getD i []) = mixR rows rows' i 0 := by
  unfold mixR
  apply List.ext_getElem?
  intro q; rw [List.getElem?_set]; by_cases hq : i = q
  · subst hq; simp [h]
  · rw [if_neg hq]; rcases Nat.lt_or_ge q rows.length with h1 | h1
    · simp [h1, Ne.symm hq, List.getD_eq_getElem?_getD]
    · rw [List.getElem?_eq_none h1, List.getElem?_eq_none (by simpa using h1)]
theorem mixR_done {rows rows' : List (List Rat)} {i : Nat} (hl : rows'.length = rows.length) : mixR rows rows' i rows.length = rows' := by
  unfold mixR
  apply List.ext_getElem?
  intro q; simp only [List.getElem?_map]; rcases Nat.lt_or_ge q rows.length with h1 | h1
  · simp [h1, List.getD_eq_getElem?_getD, List.getElem?_eq_getElem (show q < rows'.length by omega)]
  · rw [List.getElem?_eq_none (by simpa using h1), List.getElem?_eq_none (by omega)]; rfl
structure Piv (W : Nat) (rows rows' : List (List Rat)) (goal goal' : List Rat) (i j : Nat) : Prop where
  hi : i < rows.length
  hj : j < W
  few : rows.length ≤ 100
  thin : W ≤ 200
  len : rows'.length = rows.length
  w : ∀ k, k < rows.length → (rows.getD k []).length = W
  w' : ∀ k, k < rows.length → (rows'.getD k []).length = W
  g : goal.length = W
  g' : goal'.length = W
  q : ∀ k, k < rows.length → ∀ x ∈ rows.getD k [], Q9 x
  q' : ∀ x ∈ rows'.getD i [], Q9 x
  qg : ∀ x ∈ goal, Q9 x
  ne : (rows.getD i []).getD j 0 ≠ 0
  pr : ∀ c, c < W → (rows'.getD i []).getD c 0 = (rows.getD i []).getD c 0 / (rows.getD i []).getD j 0
  po : ∀ k, k < rows.length → k ≠ i → ∀ c, c < W → (rows'.getD k []).getD c 0 = (rows.getD k []).getD c 0 - (rows.getD k []).getD j 0 * (rows'.getD i []).getD c 0
  pg : ∀ c, c < W → goal'.getD c 0 = goal.getD c 0 - goal.getD j 0 * (rows'.getD i []).getD c 0
theorem list_of {W : Nat} {l : List Rat} {v : Nat → Rat} (hl : l.length = W) (h : ∀ c, c < W → l.getD c 0 = v c) : (List.range W).map v = l := by
  apply List.ext_getElem?
  intro c; rcases Nat.lt_or_ge c W with h1 | h1
  · have := h c h1; rw [List.getD_eq_getElem?_getD, List.getElem?_eq_getElem (by omega)] at this; simp [h1, ← this, List.getElem?_eq_getElem (show c < l.length by omega)]
  · rw [List.getElem?_eq_none (by simpa using h1), List.getElem?_eq_none (by omega)]
theorem list_eq {W : Nat} {a b : List Rat} (ha : a.length = W) (hb : b.length = W) (h : ∀ c, c < W → a.getD c 0 = b.getD c 0) : a = b := by
  rw [← list_of ha h, list_of hb fun _ _ => rfl]
section
variable {W : Nat} {rows rows' : List (List Rat)} {goal goal' : List Rat} {i j : Nat}
theorem Piv.row (h : Piv W rows rows' goal goal' i j) {k : Nat} (hk : k < rows.length) (hki : k ≠ i) : (List.range (rows.getD k []).length).map (lessV (rows.getD k []) ((rows.getD k []).getD j 0) (rows'.getD i [])) = rows'.getD k [] := by
  rw [h.w k hk]; exact list_of (h.w' k hk) (h.po k hk hki)
theorem Piv.row0 (h : Piv W rows rows' goal goal' i j) {k : Nat} (hk : k < rows.length) (hki : k ≠ i) (h0 : (rows.getD k []).getD j 0 = 0) : rows.getD k [] = rows'.getD k [] :=
  list_eq (h.w k hk) (h.w' k hk) fun c hc => by rw [h.po k hk hki c hc, h0, Rat.zero_mul, Rat.sub_eq_add_neg, Rat.neg_zero, Rat.add_zero]
theorem Piv.goalr (h : Piv W rows rows' goal goal' i j) : (List.range goal.length).map (lessV goal (goal.getD j 0) (rows'.getD i [])) = goal' := by
  rw [h.g]; exact list_of h.g' h.pg
theorem Piv.goal0 (h : Piv W rows rows' goal goal' i j) (h0 : goal.getD j 0 = 0) : goal = goal' :=
  list_eq h.g h.g' fun c hc => by rw [h.pg c hc, h0, Rat.zero_mul, Rat.sub_eq_add_neg, Rat.neg_zero, Rat.add_zero]
end
abbrev tEnt (hr : Value) (rows : List (List Rat)) (hb : Value) (bas : List Int) : BL := [(8, .rowx hr 25 1 (rowsR rows)), (9, .rowx hb 3 1 (ints bas))]
def low8 : BL → Bool
  | [] => true
  | (j, _) :: E => Nat.blt j 8 && low8 E
theorem te_sub {hr hb : Value} {rows : List (List Rat)} {bas : List Int} : ∀ {E : BL}, low8 E = true → ∀ i e, bget (tEnt hr rows hb bas) i = some e → bget (E ++ tEnt hr rows hb bas) i = some e
  | [], _, _, _, h => h
  | (j, f) :: E, hE, i, e, h => by
    simp only [low8, Bool.and_eq_true] at hE
    have hj : j < 8 := Nat.le_of_ble_eq_true hE.1
    have hji : j ≠ i := fun e2 => by
      subst e2
      rw [Xx _ _ (by omega), Xx _ _ (by omega)] at h
      cases h
    rw [List.cons_append, Xx _ _ hji]
    exact te_sub hE.2 i e h
theorem gopivot34 : InGo Tryz.prog 81 := InGo.of Tryz.func81 (by kernel_rfl) (by kernel_rfl)
set_option maxHeartbeats 16000000 in
theorem pivot34_ok (n m W : Nat) (rows rows' : List (List Rat)) (goal goal' : List Rat) (bas : List Int) (i j : Nat) (h : Piv W rows rows' goal goal' i j) (hbl : bas.length = rows.length) (ar ab : Option Addr) (lr cr lb cb : Nat) :
    OkM Tryz.prog 81 [.ct (taC n m (.slice ar lr cr) goal (.slice ab lb cb)), .ct (intC i), .ct (intC j)] (tEnt (.slice ar lr cr) rows (.slice ab lb cb) bas) [] (fun _ : Unit => True)
      (fun _ => .ct (taC n m (.slice ar lr cr) goal' (.slice ab lb cb))) (fun _ => tEnt (.slice ar lr cr) rows' (.slice ab lb cb) (bas.set i j)) := by
  have hi := h.hi; have hj := h.hj; have few := h.few; have thin := h.thin; have hwi := h.w i hi; have e2 : (i : Int).toNat = i := Int.toNat_natCast i; have e3 : (j : Int).toNat = j := Int.toNat_natCast j
  have k1 : (i : Int).toNat * 1 = i := by omega
  refine OkM.enter Tryz.func81 J _ Tryz.ntmps81 J (fun i hi => absurd hi (by simp)) ?_
  intro S w ρ0 hbor; refine Qy (Qx fun K hK => ?_); refine Qh 0 J J J J J J J (Qa 1 J J zvTab J J J (Qv (hK _ _ (Qz (Qy ?_))))); clear hK K; refine Qx (fun K hK => ?_); refine QW J J J fG2 J (QK J J J J J lRat2 J (Qq J J J (Xc 8 rows.length J J J (rowsR_len _) J sRat2 (by omega) (by omega) J ?_))); rw [k1]; refine QK J J J J (rowsR_at hi) lRat1 J (Q3 J J sFracs.und (List.length_map ..) J (Z5 2 W J J J (by omega) sFracs (by omega) (by omega) J J J ?_)); rw [frR_made, ← upO_zero (fun c => (rows'.getD i []).getD c 0)]; refine Qj J J J (Qv (hK _ _ (Qz (Qy (Qy ?_))))); clear hK K; refine Qx (fun K hK => ?_); refine Qj J J J (Qv (hK _ _ (Qz (Q4 ?_)))); clear hK K
  refine Qn (α := Nat) (fun c => c ≤ W)
    (fun c => [(1, .ct (intC i)), (2, .ct (intC j)), (3, .own 0), (6, .own 1), (7, .own 2), (8, .ct (intC c))])
    (fun c => (2, .row 38 3 (frR (upO (fun c => (rows'.getD i []).getD c 0) W c))) :: (1, .box 102 [.ex (.int .i64 0), .ex (.int .i64 0), .ex (.slice none 0 0), .ex (.slice none 0 0), .ex (.slice none 0 0)]) :: (0, .box 102 (taCs n m (.slice ar lr cr) goal (.slice ab lb cb))) :: tEnt (.slice ar lr cr) rows (.slice ab lb cb) bas) (fun c => W - c) 0 (Nat.zero_le _) (by exact QJ J ⟨rfl, rfl, rfl, rfl, rfl, rfl, trivial⟩) ?_
  intro c hc
  (try dsimp only at hc ⊢)
  refine Qy (Qy (Qx fun K hK => ?_)); refine Qq J J J (Qq J J J (Ops.lenR W J J J (by decide) (by rw [ZW, Yh]) sFracs.und J ?_)); refine Qk ilss J J J J (Qv (hK _ _ (Qz ?_))); clear hK K; refine Q1 J (fun hcl => ?_) (fun hcl => ?_)
  · have e4 : (c : Int).toNat = c := Int.toNat_natCast c
    have hlt : c < W := by omega
    have eset := upO_set (fun c => (rows'.getD i []).getD c 0) hlt; have hpr := h.pr c hlt; have q0 := h.q i hi _ (Xj (z := (0 : Rat)) (show c < (rows.getD i []).length by omega)); have qp := h.q i hi _ (Xj (z := (0 : Rat)) (show j < (rows.getD i []).length by omega)); have hne := h.ne
    have hlc : (frR (upO (fun c => (rows'.getD i []).getD c 0) W c)).length = W * 3 := by rw [ZW, Yh]
    have hul := Yh (fun c => (rows'.getD i []).getD c 0) W c; rw [hpr] at eset; generalize upO (fun c => (rows'.getD i []).getD c 0) W c = cur at hlc hul eset ⊢; refine Q0 (Qz (Qy (Q4 (Qy (Qx fun K hK => ?_))))); refine Qq J J J (Qq J J J (QW J J J fG2 J (QK J J J J J lRat2 J (Qq J J J (Xc 8 rows.length J J J (rowsR_len _) J sRat2 (by omega) (by omega) J ?_))))); rw [k1]; refine QK J J J J (rowsR_at hi) lRat1 J (Qq J J J (Qc J J J sFracs (by omega) (Xl (by omega) (by omega)) J ?_))
    refine Xk (n := 3) J J J Qg J J ?_
    rw [e4]
    refine XX W J J J hlc J sFracs (by omega) (by omega) J ?_
    rw [e4]
    refine stFr J J J J (by omega) szFrac ?_
    have hl2 : (frR (cur.set c (some ((rows.getD i []).getD c 0)))).length = W * 3 := by rw [ZW, List.length_set]; omega
    have hg2 : (cur.set c (some ((rows.getD i []).getD c 0))).getD c none = some ((rows.getD i []).getD c 0) := by
      rw [List.getD_eq_getElem?_getD, List.getElem?_set_self (by omega)]; rfl
    have hc1 : (frR (cur.set c (some ((rows.getD i []).getD c 0))))[c * 3 + 1]? = some (natC (ofQ ((rows.getD i []).getD c 0)).num) := by
      have := el_cell (f := frO) (n := 3) frO_len (l := cur.set c (some ((rows.getD i []).getD c 0))) (i := c) (o := 1) none (by rw [List.length_set]; omega) (by decide); rw [hg2] at this; exact this
    refine Qv (hK _ _ (Qz (Qy ?_))); clear hK K; refine Qx (fun K hK => ?_); refine Qq J J J (Qq J J J (XX W J J J hl2 J sFracs (by omega) (by omega) J ?_)); rw [e4]; refine Ops.fldA J J fF1 J (QK J J J J hc1 lNat J (Q3 J J sNat.und (List.length_map ..) J (Qk igtr J J J J (Qv (hK _ _ (Qz ?_)))))); clear hK K; refine Q1 J (fun h0 => ?_) (fun h0 => ?_)
    · have q0n := q0.n; have q0d := q0.d; have qpn := qp.n; have qpd := qp.d; have hD := rFDiv_q ((rows.getD i []).getD c 0) ((rows.getD i []).getD j 0) hne (by omega) (by omega) (by omega) (by omega); skip; refine Xz mixed 19 (.p 0 (.p 1 (.p 2 (.p 3 (.p 4 (.p 6 (.p 8 (.p 11 (.f 5 (.f 7 (.p 9 (.f 10 (.p 12 (.f 13 (.m 14 (.p 15 (.p 16 (.p 17 (.p 18 (.a 19 .done)))))))))))))))))))) (by kernel_rfl) (fun K hK => ?_); refine Qq J J J (Qq J J J (Qq J J J (Qq J J J (XX W J J J hl2 J sFracs (by omega) (by omega) J ?_)))); rw [e4]; refine QW J J J fG2 J (Qq J J J (Qq J J J (ldE (f := frO) (n := 3) (l := cur.set c (some ((rows.getD i []).getD c 0))) none frO_len J J J J J (by rw [List.length_set]; omega) Qg J ?_))); rw [hg2]; refine QK J J J J J lRat2 J (Xc 8 rows.length J J J (rowsR_len _) J sRat2 (by omega) (by omega) J ?_); rw [k1]; refine QK J J J J (rowsR_at hi) lRat1 J (Qc J J J sFracs (by omega) (Xl (by omega) (by omega)) J ?_)
      refine Xk (n := 3) J J J Qg J J ?_
      rw [e3]; skip; refine QX gorFDiv hD J J J J (Qq J J J (QZ J J J J (QZ J J J J (XX W J J J hl2 J sFracs (by omega) (by omega) J ?_)))); rw [e4]
      refine stFr J J J J (by rw [List.length_set]; omega) szFrac ?_
      rw [List.set_set, eset]; refine Qv (hK _ _ (Qz ?_)); clear hK K; refine Qx (fun K hK => ?_); refine Qq J J J (Qk (iadd (by omega) (by omega)) J J J J ?_); refine Qj J J J (Qv (hK _ _ (Q7 ?_))); clear hK K; refine Qb (c + 1) (by omega) (by omega) (by exact QJ J ⟨rfl, rfl, rfl, rfl, rfl, by simp only [Int.natCast_add]; rfl, trivial⟩)
    · have hz : (rows.getD i []).getD c 0 = 0 := q_zero (by omega)
      have hz2 : (rows.getD i []).getD c 0 / (rows.getD i []).getD j 0 = (rows.getD i []).getD c 0 := by rw [hz, Rat.div_def, Rat.zero_mul]
      rw [hz2] at eset; rw [eset]; refine Q0 (Qz (Qx fun K hK => ?_)); refine Qq J J J (Qk (iadd (by omega) (by omega)) J J J J ?_); refine Qj J J J (Qv (hK _ _ (Q7 ?_))); clear hK K; refine Qb (c + 1) (by omega) (by omega) (by exact QJ J ⟨rfl, rfl, rfl, rfl, rfl, by simp only [Int.natCast_add]; rfl, trivial⟩)
  have hcW : c = W := by omega
  subst hcW; rw [upO_done, list_of (h.w' i hi) fun _ _ => rfl]; refine X6 2 _ J (frR_rats _ _) hbor (Qm (Qz (Qy ?_))); refine St.drawQ mixed [9, 11] (.p 0 (.p 2 (.p 3 (.p 5 (.p 6 (.p 7 (.f 1 (.p 8 (.m 4 (.a 9 (.p 10 (.a 11 .done .non)) .non) (.a 9 (.m 4 (.p 10 (.a 11 .done .non)) .non) .non)))))))))) (by kernel_rfl) (fun K hK => ?_); refine (fun (cont : Go.Own.Fin _ [(1, .ct (intC i)), (2, .ct (intC j)), (3, .own 0), (6, .own 1), (7, .ct (ratsC (rows'.getD i [])))] ((1, .box 102 [.ex (.int .i64 0), .ex (.int .i64 0), .ex (.slice none 0 0), .ex (.slice none 0 0), .ex (.slice none 0 0)]) :: (0, .box 102 (taCs n m (.slice ar lr cr) goal (.slice ab lb cb))) :: [(8, .rowx (.slice ar lr cr) 25 1 ((rowsR rows).set i (ratsC (rows'.getD i [])))), (9, .rowx (.slice ab lb cb) 3 1 ((ints bas).set i (intC j)))]) K) => ?_) (hK _ _ ?_); rotate_left
  · clear hK K; rw [rowsR_set, mixR_first hi, show (ints bas).set i (intC j) = ints (bas.set i j) by unfold ints; rw [List.map_set]]; refine Qz (Qy (Qy (Qx fun K hK => ?_))); refine Qj J J J (Qv (hK _ _ (Qz (Q4 ?_)))); clear hK K
    refine Qn (α := Nat) (fun k => k ≤ rows.length)
      (fun k => [(1, .ct (intC i)), (2, .ct (intC j)), (3, .own 0), (6, .own 1), (7, .ct (ratsC (rows'.getD i []))), (9, .ct (intC k))])
      (fun k => (1, .box 102 [.ex (.int .i64 0), .ex (.int .i64 0), .ex (.slice none 0 0), .ex (.slice none 0 0), .ex (.slice none 0 0)]) :: (0, .box 102 (taCs n m (.slice ar lr cr) goal (.slice ab lb cb))) :: tEnt (.slice ar lr cr) (mixR rows rows' i k) (.slice ab lb cb) (bas.set i j)) (fun k => rows.length - k) 0 (Nat.zero_le _) (by exact QJ J ⟨rfl, rfl, rfl, rfl, rfl, rfl, trivial⟩) ?_
    intro k hk
    (try dsimp only at hk ⊢)
    have hml := mixR_len rows rows' i k
    have hms := fun h => mixR_set (rows := rows) (rows' := rows') (i := i) (k := k) h
    have hmk := fun h => mixR_skip (rows := rows) (rows' := rows') (i := i) (k := k) h
    have hma := fun h => mixR_at (rows := rows) (rows' := rows') (i := i) (k := k) (q := k) h
    have hmd := mixR_done (rows := rows) (rows' := rows') (i := i) h.len; refine Qy (Qy (Qx fun K hK => ?_)); refine Qq J J J (QW J J J fG2 J (QK J J J J J lRat2 J (Ops.lenK 8 rows.length J J J (by decide) (by rw [rowsR_len, hml]) sRat2.und J ?_))); refine Qk ilss J J J J (Qv (hK _ _ (Qz ?_))); clear hK K; refine Q1 J (fun hkl => ?_) (fun hkl => ?_)
    · have e5 : (k : Int).toNat = k := Int.toNat_natCast k
      have k5 : (k : Int).toNat * 1 = k := by omega
      have hlt : k < rows.length := by omega
      have hwk := h.w k hlt; refine Q0 (Qz (Qy (Q4 (Qy (Qx fun K hK => ?_))))); refine Qq J J J (Qq J J J (Qk ineq J J J J (Qq J J J (Qi 80 J (fun hne => ?_) (fun hne => ?_)))))
      · have hki : k ≠ i := fun e => hne (by rw [e])
        have hat := hma hlt; rw [if_neg (by omega)] at hat
        have hat2 : (rowsR (mixR rows rows' i k))[k]? = some (ratsC (rows.getD k [])) := by
          rw [rowsR_at (by rw [hml]; exact hlt), hat]
        have hrow := h.row hlt hki; have hrow0 := h.row0 hlt hki; have qk := h.q k hlt _ (Xj (z := (0 : Rat)) (show j < (rows.getD k []).length by omega)); have hS := Yn (ofQ ((rows.getD k []).getD j 0)); rw [sgnF_q] at hS; have hl34 := less34_ok (rows.getD k []) (rows'.getD i []) ((rows.getD k []).getD j 0) (by rw [h.w' i hi, hwk]) (by omega) (h.q k hlt) h.q' qk; rw [hrow] at hl34; have hms1 := hms hlt; have hmk1 := hmk hlt; generalize mixR rows rows' i k = mx at *; refine QW J J J fG2 J (QK J J J J J lRat2 J (Qq J J J (Xc 8 rows.length J J J (by rw [rowsR_len, hml]) J sRat2 (by omega) (by omega) J ?_))); rw [k5]; refine QK J J J J hat2 lRat1 J (Qq J J J (Qc J J J sFracs (by omega) (Xl (by omega) (by omega)) J ?_))
        refine Xk (n := 3) J J J Qg J J ?_
        rw [e3]; skip; refine QX goSign hS J J J J (Qk ineq J J J J (Q6 J J J J (Qv (hK _ _ (Qz ?_))))); clear hK K; refine Q1 J (fun hs => ?_) (fun hs => ?_)
        · skip; refine Xz mixed 19 (.p 0 (.p 2 (.p 3 (.p 5 (.p 8 (.p 10 (.p 13 (.p 16 (.f 1 (.f 4 (.p 6 (.f 7 (.f 9 (.p 11 (.f 12 (.p 14 (.f 15 (.m 17 (.p 18 (.a 19 .done)))))))))))))))))))) (by kernel_rfl) (fun K hK => ?_); refine QW J J J fG2 J (Qq J J J (QW J J J fG2 J (Qq J J J (QW J J J fG2 J (Qq J J J (Qq J J J (Qq J J J (QK J J J J J lRat2 J (QK J J J J J lRat2 J (Xc 8 rows.length J J J (by rw [rowsR_len, hml]) J sRat2 (by omega) (by omega) J ?_)))))))))); rw [k5]; refine QK J J J J hat2 lRat1 J (QK J J J J J lRat2 J (Xc 8 rows.length J J J (by rw [rowsR_len, hml]) J sRat2 (by omega) (by omega) J ?_)); rw [k5]; refine QK J J J J hat2 lRat1 J (Qc J J J sFracs (by omega) (Xl (by omega) (by omega)) J ?_)
          refine Xk (n := 3) J J J Qg J J ?_
          rw [e3]; skip; refine QX goless34 hl34 J J J J (Xc 8 rows.length J J J (by rw [rowsR_len, hml]) J sRat2 (by omega) (by omega) J ?_); rw [k5]
          have es : (rowsR mx).set k (ratsC (rows'.getD k [])) = rowsR (mixR rows rows' i (k + 1)) := by rw [rowsR_set, hms1]
          refine Xv J J J J J zFracs (by show k < (rowsR mx).length; rw [rowsR_len, hml]; omega) ?_
          refine Qv (hK _ _ (Qz ?_)); clear hK K; refine Qx (fun K hK => ?_); refine Qq J J J (Qk (iadd (by omega) (by omega)) J J J J ?_); refine Qj J J J (Qv (hK _ _ (Q7 ?_))); clear hK K; refine Qb (k + 1) (by omega) (by omega) (by exact QJ (by unfold tEnt; rw [← es]; rfl) ⟨rfl, rfl, rfl, rfl, rfl, by simp only [Int.natCast_add]; rfl, trivial⟩)
        · have hz : (rows.getD k []).getD j 0 = 0 := Rat.num_eq_zero.1 (Int.sign_eq_zero_iff_zero.1 (by omega)); rw [hmk1 (.inr (hrow0 hz))]; refine Q0 (Qz (Qx fun K hK => ?_)); refine Qq J J J (Qk (iadd (by omega) (by omega)) J J J J ?_); refine Qj J J J (Qv (hK _ _ (Q7 ?_))); clear hK K; refine Qb (k + 1) (by omega) (by omega) (by exact QJ J ⟨rfl, rfl, rfl, rfl, rfl, by simp only [Int.natCast_add]; rfl, trivial⟩)
      · have hki : k = i := by omega
        rw [hmk hlt (.inl hki)]; refine Qw J J J (Qw J J J (Qw J J J (Qw J J J (Qw J J J (Qw J J J (Qw J J J (Qw J J J (Qw J J J (Qw J J J (Q2 J J J J (Qv (hK _ _ (Qz (Qr J (Q0 (Qz ?_)))))))))))))))); clear hK K; refine Qx (fun K hK => ?_); refine Qq J J J (Qk (iadd (by omega) (by omega)) J J J J ?_); refine Qj J J J (Qv (hK _ _ (Q7 ?_))); clear hK K; refine Qb (k + 1) (by omega) (by omega) (by exact QJ J ⟨rfl, rfl, rfl, rfl, rfl, by simp only [Int.natCast_add]; rfl, trivial⟩)
    have hkm : k = rows.length := by omega
    rw [hkm, hmd]; have hS := Yn (ofQ (goal.getD j 0)); rw [sgnF_q] at hS; have hgl := h.g; have hl34 := less34_ok goal (rows'.getD i []) (goal.getD j 0) (by rw [h.w' i hi, hgl]) (by omega) h.qg h.q' (h.qg _ (Xj (z := (0 : Rat)) (by omega))); rw [h.goalr] at hl34; have hg0 := h.goal0; refine Qm (Qz (Qy (Qy (Qx fun K hK => ?_)))); refine QW J J J fG3 J (QK J J J J J lRat1 J (Qq J J J (Qc J J J sFracs (by omega) (Xl (by omega) (by omega)) J ?_)))
    refine Xk (n := 3) J J J Qg J J ?_
    rw [e3]; skip; refine QX goSign hS J J J J (Qk ineq J J J J (Qv (hK _ _ (Qz ?_)))); clear hK K; refine Q1 J (fun hs => ?_) (fun hs => ?_)
    · skip; refine Xz mixed 10 (.p 0 (.p 2 (.p 4 (.p 7 (.f 1 (.f 3 (.p 5 (.f 6 (.m 8 (.p 9 (.a 10 .done))))))))))) (by kernel_rfl) (fun K hK => ?_); refine QW J J J fG3 J (QW J J J fG3 J (Qq J J J (Qq J J J (QK J J J J J lRat1 J (QK J J J J J lRat1 J (Qc J J J sFracs (by omega) (Xl (by omega) (by omega)) J ?_))))))
      refine Xk (n := 3) J J J Qg J J ?_
      rw [e3]; skip; refine QX goless34 hl34 J J J J (QW J J J fG3 J (Xv J J J J J zFracs (Nat.le_of_ble_eq_true J) (Qv (hK _ _ (Qz (Qy ?_)))))); clear hK K; refine Qx (fun K hK => ?_); refine Qd (n := 5) J J J J J lTab J (Q8 5 J J J J J szTab5 J J (Qv (hK _ _ (Qz (QU ?_))))); clear hK K; refine Fin.retMS () [_] rfl (Qp (n := 5) J J lTab J QQ) J (te_sub (E := [(1, _), (0, _)]) J) (fun i hi => absurd hi (by simp)) trivial
    · have hz : goal.getD j 0 = 0 := Rat.num_eq_zero.1 (Int.sign_eq_zero_iff_zero.1 (by omega)); rw [← hg0 hz]; refine Q0 (Qz (Qy (Qx fun K hK => ?_))); refine Qd (n := 5) J J J J J lTab J (Q8 5 J J J J J szTab5 J J (Qv (hK _ _ (Qz (QU ?_))))); clear hK K; refine Fin.retMS () [_] rfl (Qp (n := 5) J J lTab J QQ) J (te_sub (E := [(1, _), (0, _)]) J) (fun i hi => absurd hi (by simp)) trivial
  clear hK; refine X3 (QW J J J fG2 J (Qv ?_)); refine X3 (Qq J J J (Qv ?_)); refine X3 (QW J J J fG4 J (Qv ?_)); refine X3 (Qq J J J (Qv ?_)); refine X3 (Qq J J J (Qv ?_)); refine X3 (Qq J J J (Qv ?_)); refine Fin.qf (QK J J J J J lRat2 J (Qv ?_)); refine X3 (Xc 8 rows.length J J J (rowsR_len _) J sRat2 (by omega) (by omega) J (Qv ?_)); rw [k1]
  refine Xi ?_ ?_
  · refine QK J J J J J lInts J (Qv ?_); refine XK (Xv J J J J J zFracs (by show i < (rowsR rows).length; rw [rowsR_len]; omega) (Qv ?_)) Qo; refine X3 (Xc 9 bas.length J J J (by simp [ints]) J sInts (by omega) (by omega) J (Qv ?_)); rw [k1]; refine XK (Xv J J J J J zInt (by show i < (ints bas).length; simp [ints]; omega) (Qv ?_)) Qo; exact Xo (Za cont ⟨rfl, rfl, rfl, rfl, rfl, trivial⟩)
  · refine XK (Xv J J J J J zFracs (by show i < (rowsR rows).length; rw [rowsR_len]; omega) (Qv ?_)) Qo
    refine Xi ?_ Qo
    refine QK J J J J J lInts J (Qv ?_); refine X3 (Xc 9 bas.length J J J (by simp [ints]) J sInts (by omega) (by omega) J (Qv ?_)); rw [k1]; refine XK (Xv J J J J J zInt (by show i < (ints bas).length; simp [ints]; omega) (Qv ?_)) Qo; exact Xo (Za cont ⟨rfl, rfl, rfl, rfl, rfl, trivial⟩)
theorem low8_lt : ∀ {E : BL} {j : Nat} {e : Ent}, low8 E = true → bget E j = some e → j < 8
  | (i, f) :: E, j, e, hE, h => by
    simp only [low8, Bool.and_eq_true] at hE
    by_cases hij : i = j
    · subst hij; exact Nat.le_of_ble_eq_true hE.1
    · rw [Xx _ _ hij] at h; exact low8_lt hE.2 h
theorem te_none {hr hb : Value} {rows : List (List Rat)} {bas : List Int} {j : Nat} (h : j < 8) : bget (tEnt hr rows hb bas) j = none := by
  rw [Xx _ _ (by omega), Xx _ _ (by omega)]; rfl
theorem te_swap {E : BL} (hE : low8 E = true) (hr hb : Value) (rows : List (List Rat)) (bas : List Int) (j : Nat) : bget (E ++ tEnt hr rows hb bas) j = bget (tEnt hr rows hb bas ++ E) j := by
  rw [Zw, Zw]
  cases h : bget E j with
  | none => cases bget (tEnt hr rows hb bas) j <;> rfl
  | some e => rw [te_none (low8_lt hE h)]; rfl
section
variable {X : Ctx} {L : AL} {B : BL} {ops : Array Oper} {K : Act → World → Prop} {r : Pl} {k : Kd}
  {d : Nat} {t t2 t' : TypeId} {pos : String} {af : Array Edge} {g : Option (Nat × Bool)}
theorem Zm {f : FuncId} {args : List Operand} {tys : Array TypeId} {As : List Sl} {hr hb : Value} {rows : List (List Rat)} {bas : List Int} {α : Type} {J : α → Prop} {R : α → CT} {rows' : α → List (List Rat)} {bas' : α → List Int} (E : BL) (hgo : InGo X.P f) (hok : OkM X.P f As (tEnt hr rows hb bas) [] J (fun q => .ct (R q)) (fun q => tEnt hr (rows' q) hb (bas' q))) (hg : gd ops L g = some true) (hargs : evS L args = some As) (hn : Nat.blt d X.n = true)
    (hbor : ∀ gb, X.bor gb → X.S0 gb) (hB : B = E ++ tEnt hr rows hb bas) (hE : low8 E = true) (hfix : X.fix = [])
    (h : ∀ q, J q → Ops X ops r ((d, .ct (R q)) :: keepL (fun j => Nat.blt j 8) L) (E ++ tEnt hr (rows' q) hb (bas' q)) K) : Ops X ops (.cons ⟨some d, .call { callee := .value (.func f), args := args.toArray, argTypes := tys }, t, pos, af, g⟩ .any r) L B K := by
  subst hB; refine Ops.callM E (fun j => Nat.blt j 8) hgo hok hg hargs hn hbor (te_swap hE hr hb rows bas) (fun j hj => ?_) (fun j hj => .inr fun q => te_none (Nat.le_of_ble_eq_true hj)) (fun p hp => by rw [hfix] at hp; cases hp) (fun q j h => ?_) (fun q hq => ?_)
  · obtain ⟨e, he⟩ := Option.isSome_iff_exists.1 hj; have := low8_lt hE he; exact ⟨te_none this, fun q => te_none this⟩
  · rcases h with h | ⟨_, h⟩ <;> cases h
  · exact Ops.reB (fun j => te_swap hE hr hb (rows' q) (bas' q) j) (h q hq)
end
theorem div_lens {p q : Rat} (hq : q ≠ 0) : (limbs (ofQ (p / q)).num).length ≤ (limbs (ofQ p).num).length + (limbs (ofQ q).den).length ∧ (limbs (ofQ (p / q)).den).length ≤ (limbs (ofQ p).den).length + (limbs (ofQ q).num).length := by
  have hn : 0 < (ofQ q).num := by
    show 0 < q.num.natAbs
    have : q.num ≠ 0 := fun e => hq (Rat.num_eq_zero.1 e)
    omega
  have h := redF_mul (ofQ p) ⟨(ofQ q).neg, (ofQ q).den, (ofQ q).num⟩ (Xp p) hn; rw [Y6, qv_inv hq, ← Rat.div_def] at h; rw [← h]; have h2 := Y2 ((ofQ p).neg != (ofQ q).neg) ((ofQ p).num * (ofQ q).den) ((ofQ p).den * (ofQ q).num) (Nat.mul_pos (Xp p) hn); exact ⟨div_len X2, Nat.le_trans (Xu h2.2) X2⟩
structure TSt where
  rows : List (List Rat)
  goal : List Rat
  bas : List Int
def TSt.at (X : TSt) (i j : Nat) : Rat := (X.rows.getD i []).getD j 0
structure Tok (W : Nat) (X : TSt) : Prop where
  few : X.rows.length ≤ 100
  thin : W ≤ 200
  w : ∀ k, k < X.rows.length → (X.rows.getD k []).length = W
  g : X.goal.length = W
  b : X.bas.length = X.rows.length
  q : ∀ k, k < X.rows.length → ∀ x ∈ X.rows.getD k [], Q9 x
  qg : ∀ x ∈ X.goal, Q9 x
def ratR (X : TSt) (j e i : Nat) : Rat := X.at i e / X.at i j
def levR (X : TSt) (j e : Nat) : Nat → Int
  | 0 => -1
  | i + 1 => if ¬ 0 < (X.at i j).num then levR X j e i else if levR X j e i < 0 then i else
      if cmpQ (ratR X j e i) (ratR X j e (levR X j e i).toNat) < 0 ∨ (cmpQ (ratR X j e i) (ratR X j e (levR X j e i).toNat) = 0 ∧ X.bas.getD i 0 < X.bas.getD (levR X j e i).toNat 0) then i else levR X j e i
theorem levR_bd (X : TSt) (j e : Nat) : ∀ i, -1 ≤ levR X j e i ∧ levR X j e i < i ∧ (0 ≤ levR X j e i → 0 < (X.at (levR X j e i).toNat j).num)
  | 0 => by simp [levR]
  | i + 1 => by
    have ih := levR_bd X j e i
    simp only [levR]
    split
    · exact ⟨ih.1, by omega, ih.2.2⟩
    · rename_i h
      have h : 0 < (X.at i j).num := Classical.not_not.1 h
      split
      · exact ⟨by omega, by omega, fun _ => by rw [Int.toNat_natCast]; exact h⟩
      · split
        · exact ⟨by omega, by omega, fun _ => by rw [Int.toNat_natCast]; exact h⟩
        · exact ⟨ih.1, by omega, ih.2.2⟩
structure Ent1 (X : TSt) (C e : Nat) : Prop where
  lt : e < C
  neg : (X.goal.getD e 0).num < 0
  least : ∀ j, j < e → ¬ (X.goal.getD j 0).num < 0
theorem Ent1.uniq {X : TSt} {C e e' : Nat} (h : Ent1 X C e) (h' : Ent1 X C e') : e = e' := by
  rcases Nat.lt_trichotomy e e' with h1 | h1 | h1
  · exact absurd h.neg (h'.least e h1)
  · exact h1
  · exact absurd h'.neg (h.least e' h1)
def ImpRun (W C en : Nat) (F : TSt) (s : Int) : Nat → TSt → Prop
  | 0, X => Tok W X ∧ X = F ∧ ((s = -1 ∧ ∀ j, j < C → ¬ (X.goal.getD j 0).num < 0) ∨ ∃ e : Nat, s = e ∧ Ent1 X C e ∧ levR X e en X.rows.length < 0)
  | k + 1, X => Tok W X ∧ ∃ (e : Nat) (X' : TSt), Ent1 X C e ∧ 0 ≤ levR X e en X.rows.length ∧ Piv W X.rows X'.rows X.goal X'.goal (levR X e en X.rows.length).toNat e ∧ X'.bas = X.bas.set (levR X e en X.rows.length).toNat e ∧ ImpRun W C en F s k X'
theorem ImpRun.none {W C en : Nat} {F : TSt} {s : Int} {k : Nat} {X : TSt} (h : ImpRun W C en F s k X) (hn : ∀ j, j < C → ¬ (X.goal.getD j 0).num < 0) : X = F ∧ s = -1 := by
  cases k with
  | zero =>
    obtain ⟨_, rfl, ⟨rfl, _⟩ | ⟨e, _, he, _⟩⟩ := h
    · exact ⟨rfl, rfl⟩
    · exact absurd he.neg (hn e he.lt)
  | succ k =>
    obtain ⟨_, e, X', he, _⟩ := h; exact absurd he.neg (hn e he.lt)
theorem ImpRun.some {W C en : Nat} {F : TSt} {s : Int} {k : Nat} {X : TSt} (h : ImpRun W C en F s k X) {e : Nat} (he : Ent1 X C e) :
    (levR X e en X.rows.length < 0 → X = F ∧ s = e) ∧ (0 ≤ levR X e en X.rows.length → ∃ k' X', k = k' + 1 ∧ Piv W X.rows X'.rows X.goal X'.goal (levR X e en X.rows.length).toNat e ∧ X'.bas = X.bas.set (levR X e en X.rows.length).toNat e ∧ ImpRun W C en F s k' X') := by
  cases k with
  | zero =>
    obtain ⟨_, rfl, ⟨rfl, hn⟩ | ⟨e', rfl, he', hl⟩⟩ := h
    · exact absurd he.neg (hn e he.lt)
    · obtain rfl := he.uniq he'; exact ⟨fun _ => ⟨rfl, rfl⟩, fun h0 => by omega⟩
  | succ k =>
    obtain ⟨_, e', X', he', hl, h1, h2, h3⟩ := h; obtain rfl := he.uniq he'; exact ⟨fun h0 => by omega, fun _ => ⟨k, X', rfl, h1, h2, h3⟩⟩
theorem ImpRun.tok {W C en : Nat} {F : TSt} {s : Int} {k : Nat} {X : TSt} (h : ImpRun W C en F s k X) : Tok W X := by
  cases k with
  | zero => exact h.1
  | succ k => exact h.1
theorem goimprove34 : InGo Tryz.prog 82 := InGo.of Tryz.func82 (by kernel_rfl) (by kernel_rfl)
def bstC (X : TSt) (j e : Nat) (a : Int) : List CT := if a < 0 then [.ex (.bool false), .ex (.slice none 0 0), .ex (.slice none 0 0)] else frCs (ofQ (ratR X j e a.toNat))
set_option maxHeartbeats 16000000 in
theorem improve34_ok (n m W C : Nat) (X0 F : TSt) (s : Int) (k0 : Nat) (hR : ImpRun W C (n + m + 1) F s k0 X0) (hW : W = n + m + 2) (hC : C ≤ W) (ar ab : Option Addr) (lr cr lb cb : Nat) :
    OkM Tryz.prog 82 [.ct (taC n m (.slice ar lr cr) X0.goal (.slice ab lb cb)), .ct (intC C)] (tEnt (.slice ar lr cr) X0.rows (.slice ab lb cb) X0.bas) [] (fun _ : Unit => True)
      (fun _ => .ct (.fr (tupT [taC n m (.slice ar lr cr) F.goal (.slice ab lb cb), intC s]))) (fun _ => tEnt (.slice ar lr cr) F.rows (.slice ab lb cb) F.bas) := by
  refine OkM.enter Tryz.func82 J _ Tryz.ntmps82 J (fun i hi => absurd hi (by simp)) ?_
  intro S w ρ0 hbor; refine Qy (Qx fun K hK => ?_); refine Qh 0 J J J J J J J (Qa 1 J J zvTab J J J (Qj J J J (Qv (hK _ _ (Qz (Q4 ?_)))))); clear hK K
  refine Qn (α := Nat × TSt) (fun x => ImpRun W C (n + m + 1) F s x.1 x.2)
    (fun _ => [(1, .ct (intC C)), (2, .own 0), (4, .own 1)])
    (fun x => (1, .box 102 [.ex (.int .i64 0), .ex (.int .i64 0), .ex (.slice none 0 0), .ex (.slice none 0 0), .ex (.slice none 0 0)]) :: (0, .box 102 (taCs n m (.slice ar lr cr) x.2.goal (.slice ab lb cb))) :: tEnt (.slice ar lr cr) x.2.rows (.slice ab lb cb) x.2.bas) (fun x => x.1) (k0, X0) hR (by exact QJ J ⟨rfl, rfl, rfl, trivial⟩) ?_
  rintro ⟨k, X⟩ hk
  dsimp only at hk ⊢; have hT := hk.tok; have few := hT.few; have thin := hT.thin; have hg := hT.g; refine Q4 (Qy (Qx (fun K hK => ?_))); refine Qj J J J (Qv (hK _ _ ?_)); clear hK K; refine Qz (Qy ?_)
  refine Zq (α := Nat) (fun e => (e = C ∧ ∀ j, j < C → ¬ (X.goal.getD j 0).num < 0) ∨ Ent1 X C e) (fun e => [(1, .ct (intC C)), (2, .own 0), (4, .own 1), (6, .ct (intC e))])
    (fun _ => (1, .box 102 [.ex (.int .i64 0), .ex (.int .i64 0), .ex (.slice none 0 0), .ex (.slice none 0 0), .ex (.slice none 0 0)]) :: (0, .box 102 (taCs n m (.slice ar lr cr) X.goal (.slice ab lb cb))) :: tEnt (.slice ar lr cr) X.rows (.slice ab lb cb) X.bas) (fun e he => ?_) (fun KK hN => ?_)
  rotate_left
  · refine Q4 ?_
    refine Qn (α := Nat) (fun j => j ≤ C ∧ ∀ q, q < j → ¬ (X.goal.getD q 0).num < 0)
      (fun j => [(1, .ct (intC C)), (2, .own 0), (4, .own 1), (6, .ct (intC j))])
      (fun _ => (1, .box 102 [.ex (.int .i64 0), .ex (.int .i64 0), .ex (.slice none 0 0), .ex (.slice none 0 0), .ex (.slice none 0 0)]) :: (0, .box 102 (taCs n m (.slice ar lr cr) X.goal (.slice ab lb cb))) :: tEnt (.slice ar lr cr) X.rows (.slice ab lb cb) X.bas) (fun j => C - j) 0 ⟨Nat.zero_le _, fun q h => absurd h (Nat.not_lt_zero q)⟩ (by exact QJ J ⟨rfl, rfl, rfl, rfl, trivial⟩) ?_
    intro j ⟨hj, hjl⟩
    (try dsimp only at hj hjl ⊢)
    have e2 : (j : Int).toNat = j := Int.toNat_natCast j; have hS := Yn (ofQ (X.goal.getD j 0)); rw [sgnF_q] at hS; refine Qy (Qy (Qx fun K hK => ?_)); refine Qq J J J (Qq J J J (Qk ilss J J J J (Qq J J J (Qi 17 J (fun hlt => ?_) (fun hlt => ?_)))))
    · refine QW J J J fG3 J (QK J J J J J lRat1 J (Qq J J J (Qc J J J sFracs (by omega) (Xl (by omega) (by omega)) J ?_)))
      refine Xk (n := 3) J J J Qg J J ?_
      rw [e2]; skip; refine QX goSign hS J J J J (Qk igeq J J J J (Q6 J J J J (Qv (hK _ _ (Qz ?_))))); clear hK K; refine Q1 J (fun hs => ?_) (fun hs => ?_)
      · refine Q0 (Qz (Q4 (Qx fun K hK => ?_))); refine Qq J J J (Qk (iadd (by omega) (by omega)) J J J J ?_); refine Qj J J J (Qv (hK _ _ (XJ (Q7 ?_)))); clear hK K; refine Qb (j + 1) (by omega) ⟨by omega, fun q hq => ?_⟩ (by exact QJ J ⟨rfl, rfl, rfl, by simp only [Int.natCast_add]; rfl, trivial⟩); rcases Nat.lt_or_ge q j with h3 | h3
        · exact hjl q h3
        · have : q = j := by omega
          subst this
          exact fun h4 => by have := Int.sign_neg_iff.2 h4; omega
      · refine Qm (Zj (Zj (Fin.blockE ?_))); exact XW hN j (.inr ⟨by omega, Int.sign_neg_iff.1 (by omega), hjl⟩) (by exact QJ J ⟨rfl, rfl, rfl, rfl, trivial⟩)
    · refine Qw J J J (Qw J J J (Qw J J J (Qw J J J (Qw J J J (Qw J J J (Qw J J J (Q2 J J J J (Qv (hK _ _ (Qz (Qr J (Qm (Zj (Zj (Fin.blockE ?_))))))))))))))); clear hK K
      have hjC : j = C := by omega
      exact XW hN j (.inl ⟨hjC, fun q hq => hjl q (by omega)⟩) (by exact QJ J ⟨rfl, rfl, rfl, rfl, trivial⟩)
  rcases he with ⟨rfl, hn⟩ | he
  · obtain ⟨rfl, rfl⟩ := hk.none hn; refine Qy (Qy (Qx fun K hK => ?_)); refine Qq J J J (Qq J J J (Qk ieql J J J J (Qv (hK _ _ (Qz ?_))))); clear hK K; refine Q1 J (fun _ => ?_) (fun h => absurd J h); refine Qy (Qx fun K hK => ?_); refine Qd (n := 5) J J J J J lTab J (Q8 5 J J J J J szTab5 J J (Qj J J J (Qv (hK _ _ (Qz (QU (QV (Q5 (QV (Q5 ?_)))))))))); clear hK K; refine Fin.retMS () [_, _] rfl (Qp (n := 5) J J lTab J (Qu J QQ)) J (te_sub (E := [(1, _), (0, _)]) J) (fun i hi => absurd hi (by simp)) trivial
  · have heC := he.lt; refine Qy (Qy (Qx fun K hK => ?_)); refine Qq J J J (Qq J J J (Qk ieql J J J J (Qv (hK _ _ (Qz ?_))))); clear hK K; refine Q1 J (fun h => absurd h (by omega)) (fun _ => ?_); refine Q0 (Qz (Qy (Qx fun K hK => ?_))); refine Qj J J J (Qv (hK _ _ (Qz (Qy ?_)))); clear hK K; refine Qx (fun K hK => ?_); refine Qa 2 J J zvFrac J J J (Qv (hK _ _ (Qz (Qy ?_)))); clear hK K; refine Qx (fun K hK => ?_); refine QW J J J fG0 J (QK J J J J J lInt J (QW J J J fG1 J (QK J J J J J lInt J (Qk (iadd (by omega) (by omega)) J J J J ?_))))
    refine Qk (iadd (by omega) (by omega)) J J J J ?_
    refine Qj J J J (Qv (hK _ _ (Qz (Qy (Qy ?_))))); clear hK K; refine Qx (fun K hK => ?_); refine Qj J J J (Qv (hK _ _ (Qz (Q4 ?_)))); clear hK K; have hsome := hk.some he
    refine Qn (α := Nat) (fun i => i ≤ X.rows.length)
      (fun i => [(1, .ct (intC C)), (2, .own 0), (4, .own 1), (6, .ct (intC e)), (7, .ct (intC (levR X e (n + m + 1) i))), (8, .own 2), (9, .ct (intC ((n : Int) + m + 1))), (10, .ct (intC i))])
      (fun i => (2, .box 38 (bstC X e (n + m + 1) (levR X e (n + m + 1) i))) :: (1, .box 102 [.ex (.int .i64 0), .ex (.int .i64 0), .ex (.slice none 0 0), .ex (.slice none 0 0), .ex (.slice none 0 0)]) :: (0, .box 102 (taCs n m (.slice ar lr cr) X.goal (.slice ab lb cb))) :: tEnt (.slice ar lr cr) X.rows (.slice ab lb cb) X.bas) (fun i => X.rows.length - i) 0 (Nat.zero_le _) (by exact QJ J ⟨rfl, rfl, rfl, rfl, rfl, rfl, rfl, rfl, trivial⟩) ?_
    intro i hi
    (try dsimp only at hi ⊢)
    have hlb := levR_bd X e (n + m + 1) i
    have hls : levR X e (n + m + 1) (i + 1) = if ¬ 0 < (X.at i e).num then levR X e (n + m + 1) i else if levR X e (n + m + 1) i < 0 then i else
      if cmpQ (ratR X e (n + m + 1) i) (ratR X e (n + m + 1) (levR X e (n + m + 1) i).toNat) < 0 ∨ (cmpQ (ratR X e (n + m + 1) i) (ratR X e (n + m + 1) (levR X e (n + m + 1) i).toNat) = 0 ∧ X.bas.getD i 0 < X.bas.getD (levR X e (n + m + 1) i).toNat 0) then i else levR X e (n + m + 1) i := rfl
    refine Qy (Qy (Qx fun K hK => ?_)); refine Qq J J J (QW J J J fG2 J (QK J J J J J lRat2 J (Ops.lenK 8 X.rows.length J J J (by decide) (rowsR_len _) sRat2.und J ?_))); refine Qk ilss J J J J (Qv (hK _ _ (Qz ?_))); clear hK K; refine Q1 J (fun hil => ?_) (fun hil => ?_)
    · have e2 : (i : Int).toNat = i := Int.toNat_natCast i
      have k2 : (i : Int).toNat * 1 = i := by omega
      have e3 : (e : Int).toNat = e := Int.toNat_natCast e
      have e4 : ((n : Int) + m + 1).toNat = n + m + 1 := by omega
      have hlt : i < X.rows.length := by omega
      have hwi := hT.w i hlt; have hat : X.at i e = (X.rows.getD i []).getD e 0 := rfl; have hS := Yn (ofQ (X.at i e)); rw [sgnF_q] at hS; have qa := hT.q i hlt _ (Xj (z := (0 : Rat)) (show e < (X.rows.getD i []).length by omega)); have qb := hT.q i hlt _ (Xj (z := (0 : Rat)) (show n + m + 1 < (X.rows.getD i []).length by omega)); refine Q0 (Qz (Qy (Q4 (Qy (Qy (Qx fun K hK => ?_)))))); refine QW J J J fG2 J (QK J J J J J lRat2 J (Qq J J J (Xc 8 X.rows.length J J J (rowsR_len _) J sRat2 (by omega) (by omega) J ?_))); rw [k2]; refine QK J J J J (rowsR_at hlt) lRat1 J (Qq J J J (Qc J J J sFracs (by omega) (Xl (by omega) (by omega)) J ?_))
      refine Xk (n := 3) J J J Qg J J ?_
      rw [e3, ← hat]; skip; refine QX goSign hS J J J J (Qk ileq J J J J (Qv (hK _ _ (Qz ?_)))); clear hK K; refine Q1 J (fun hs => ?_) (fun hs => ?_)
      · have hn : ¬ 0 < (X.at i e).num := fun h => by have := Int.sign_pos_iff.2 h; omega
        rw [if_pos hn] at hls; rw [← hls]; refine Qm (Qz (Qx fun K hK => ?_)); refine Qq J J J (Qk (iadd (by omega) (by omega)) J J J J ?_); refine Qj J J J (Qv (hK _ _ (Q7 ?_))); clear hK K; refine Qb (i + 1) (by omega) (by omega) (by exact QJ J ⟨rfl, rfl, rfl, rfl, rfl, rfl, rfl, by simp only [Int.natCast_add]; rfl, trivial⟩)
      · have hp : 0 < (X.at i e).num := Int.sign_pos_iff.1 (by omega)
        have hne : X.at i e ≠ 0 := fun h => by rw [h] at hp; exact absurd hp (by decide)
        rw [if_neg (fun h => h hp)] at hls; have qan := qa.n; have qad := qa.d; have qbn := qb.n; have qbd := qb.d; have hD := rFDiv_q ((X.rows.getD i []).getD (n + m + 1) 0) ((X.rows.getD i []).getD e 0) hne (by omega) (by omega) (by omega) (by omega); have hrr : (X.rows.getD i []).getD (n + m + 1) 0 / (X.rows.getD i []).getD e 0 = ratR X e (n + m + 1) i := rfl; rw [hrr] at hD; have dl := div_lens (p := (X.rows.getD i []).getD (n + m + 1) 0) (q := (X.rows.getD i []).getD e 0) hne; rw [hrr] at dl; refine Q0 (Qz (Qy ?_))
        refine Zq (α := Unit) (fun _ => True) (fun _ => [(1, .ct (intC C)), (2, .own 0), (4, .own 1), (6, .ct (intC e)), (7, .ct (intC (levR X e (n + m + 1) i))), (8, .own 2), (9, .ct (intC ((n : Int) + m + 1))), (10, .ct (intC i)), (11, .own 3)])
          (fun _ => (3, .box 38 (frCs (ofQ (ratR X e (n + m + 1) i)))) :: (2, .box 38 (bstC X e (n + m + 1) (levR X e (n + m + 1) i))) :: (1, .box 102 [.ex (.int .i64 0), .ex (.int .i64 0), .ex (.slice none 0 0), .ex (.slice none 0 0), .ex (.slice none 0 0)]) :: (0, .box 102 (taCs n m (.slice ar lr cr) X.goal (.slice ab lb cb))) :: tEnt (.slice ar lr cr) X.rows (.slice ab lb cb) X.bas) (fun _ _ => ?_) (fun KK hN => ?_)
        rotate_left
        · skip; refine Xz mixed 21 (.p 0 (.p 2 (.p 5 (.p 8 (.p 10 (.p 13 (.f 1 (.p 3 (.f 4 (.p 6 (.f 7 (.f 9 (.p 11 (.f 12 (.p 14 (.f 15 (.fork 16 (.p 17 (.p 18 (.p 19 (.m 20 (.a 21 (.p 22 .done)))))) 20 (.m 16 (.p 17 (.p 18 (.p 19 (.a 21 (.p 22 .done))))))))))))))))))))))) (by kernel_rfl) (fun K hK => ?_); refine (fun (cont : Go.Own.Fin _ [(1, .ct (intC C)), (2, .own 0), (4, .own 1), (6, .ct (intC e)), (7, .ct (intC (levR X e (n + m + 1) i))), (8, .own 2), (9, .ct (intC ((n : Int) + m + 1))), (10, .ct (intC i)), (11, .own 3)] ((3, .box 38 (frCs (ofQ (ratR X e (n + m + 1) i)))) :: (2, .box 38 (bstC X e (n + m + 1) (levR X e (n + m + 1) i))) :: (1, .box 102 [.ex (.int .i64 0), .ex (.int .i64 0), .ex (.slice none 0 0), .ex (.slice none 0 0), .ex (.slice none 0 0)]) :: (0, .box 102 (taCs n m (.slice ar lr cr) X.goal (.slice ab lb cb))) :: tEnt (.slice ar lr cr) X.rows (.slice ab lb cb) X.bas) K) => ?_) (hK _ _ ?_); rotate_left
          · clear hK K; exact XW hN () trivial (by exact QJ J ⟨rfl, rfl, rfl, rfl, rfl, rfl, rfl, rfl, rfl, trivial⟩)
          clear hK; refine QW J J J fG2 J (Qq J J J (Qq J J J (QW J J J fG2 J (Qq J J J (Qq J J J (QK J J J J J lRat2 J (Xc 8 X.rows.length J J J (rowsR_len _) J sRat2 (by omega) (by omega) J ?_))))))); rw [k2]; refine QK J J J J (rowsR_at hlt) lRat1 J (Qc J J J sFracs (by omega) (Xl (by omega) (by omega)) J ?_); refine Xk (n := 3) J J J Qg J J (QK J J J J J lRat2 J ?_); rw [e4]; skip
          refine Xc 8 X.rows.length J J J (rowsR_len _) J sRat2 (by omega) (by omega) J ?_
          rw [k2]; refine QK J J J J (rowsR_at hlt) lRat1 J (Qc J J J sFracs (by omega) (Xl (by omega) (by omega)) J ?_)
          refine Xk (n := 3) J J J Qg J J ?_
          rw [e3]; skip
          refine Y0 ?_ ?_
          · refine QX gorFDiv hD J J J J (Qq J J J (QZ J J J J (QZ J J J J (Qa 3 J J zvFrac J J J (Q8 3 J J J J J szFrac J J (Qj J J J ?_)))))); exact Qv (Za cont ⟨rfl, rfl, rfl, rfl, rfl, rfl, rfl, rfl, rfl, trivial⟩)
          · refine Qa 3 J J zvFrac J J J (QX gorFDiv hD J J J J (Qq J J J (QZ J J J J (QZ J J J J (Q8 3 J J J J J szFrac J J (Qj J J J ?_)))))); exact Qv (Za cont ⟨rfl, rfl, rfl, rfl, rfl, rfl, rfl, rfl, rfl, trivial⟩)
        have hbi : bstC X e (n + m + 1) (i : Int) = frCs (ofQ (ratR X e (n + m + 1) i)) := by unfold bstC; rw [if_neg (by omega), Int.toNat_natCast]
        clear hD hS; refine Qy (Qx fun K hK => ?_); refine Qj J J J (Qv (hK _ _ (Qz (Qy (Qy ?_))))); clear hK K; refine Qx (fun K hK => ?_); refine Qq J J J (Qk igeq J J J J (Qv (hK _ _ (Qz ?_)))); clear hK K; refine Q1 J (fun ha => ?_) (fun ha => ?_)
        · rw [if_neg (by omega)] at hls
          have hbl : bstC X e (n + m + 1) (levR X e (n + m + 1) i) = frCs (ofQ (ratR X e (n + m + 1) (levR X e (n + m + 1) i).toNat)) := by unfold bstC; rw [if_neg (by omega)]
          have hll := hlb.2.1; have hpl := hlb.2.2 (by omega); obtain ⟨l, hl⟩ : ∃ l : Nat, levR X e (n + m + 1) i = l := ⟨(levR X e (n + m + 1) i).toNat, by omega⟩; rw [hl] at hls hbl hll hpl; rw [Int.toNat_natCast] at hls hbl hpl
          have hlm : l < X.rows.length := by omega
          have hnl : X.at l e ≠ 0 := fun h => by rw [h] at hpl; exact absurd hpl (by decide)
          have hwl := hT.w l hlm; have ql := hT.q l hlm _ (Xj (z := (0 : Rat)) (show e < (X.rows.getD l []).length by omega)); have qm := hT.q l hlm _ (Xj (z := (0 : Rat)) (show n + m + 1 < (X.rows.getD l []).length by omega)); have dl2 := div_lens (p := (X.rows.getD l []).getD (n + m + 1) 0) (q := (X.rows.getD l []).getD e 0) hnl; rw [show (X.rows.getD l []).getD (n + m + 1) 0 / (X.rows.getD l []).getD e 0 = ratR X e (n + m + 1) l from rfl] at dl2; have qln := ql.n; have qld := ql.d; have qmn := qm.n; have qmd := qm.d; have hC2 := rFCompare_q (ratR X e (n + m + 1) i) (ratR X e (n + m + 1) l) (by omega) (by omega) (by omega) (by omega); rw [hl, hbl]; have e5 : (l : Int).toNat = l := Int.toNat_natCast l
          have k5 : (l : Int).toNat * 1 = l := by omega
          have hTb := hT.b; generalize cmpQ (ratR X e (n + m + 1) i) (ratR X e (n + m + 1) l) = cq at hC2 hls; refine Qx (fun K hK => ?_); refine Qd (n := 3) J J J J J Qg J (Qd (n := 3) J J J J J Qg J (QX YK hC2 J J J J (Qq J J J (QZ J J J J (QZ J J J J (Qj J J J (Qv (hK _ _ (Qz (Qy ?_)))))))))); clear hK K; refine Xz mixed 19 (.p 0 (.p 1 (.p 2 (.p 3 (.p 4 (.p 5 (.p 6 (.p 8 (.p 11 (.p 13 (.f 7 (.p 9 (.f 10 (.f 12 (.p 14 (.f 15 (.p 16 (.p 17 (.p 18 .done))))))))))))))))))) (by kernel_rfl) (fun K hK => ?_); refine Qq J J J (Qk ilss J J J J (Qq J J J (Qi 85 J (fun hc => ?_) (fun hc => ?_))))
          · have hls2 := hls; rw [if_pos (.inl hc)] at hls2; refine Qw J J J (Qw J J J (Qw J J J (Qw J J J (Qw J J J (Qw J J J (Qw J J J (Qw J J J (Qw J J J (Qw J J J (Qw J J J (Qw J J J (Qw J J J (Qw J J J (Qw J J J (Q6 J J J J (Qv (hK _ _ (Qz (Xq J ?_))))))))))))))))))); clear hK K; refine Xz mixed 3 (.p 0 (.p 2 (.f 1 (.a 3 .done)))) (by kernel_rfl) (fun K hK => ?_); refine Qq J J J (Qj J J J (Qd (n := 3) J J J J J Qg J (Q8 3 J J J J J szFrac J J (Qv (hK _ _ (Qz ?_)))))); clear hK K; refine Qx (fun K hK => ?_); refine Qq J J J (Qk (iadd (by omega) (by omega)) J J J J ?_); refine Qj J J J (Qv (hK _ _ (Q7 ?_))); clear hK K; refine Xy 3 (Qb (i + 1) (by omega) (by omega) (by rw [hls2]; exact QJ (by rw [hbi]; rfl) ⟨rfl, rfl, rfl, rfl, rfl, rfl, rfl, by simp only [Int.natCast_add]; rfl, trivial⟩))
          · refine Qq J J J (Qk ieql J J J J (Qq J J J (Qi 88 J (fun hc0 => ?_) (fun hc0 => ?_))))
            · refine QW J J J fG4 J (Qq J J J (QW J J J fG4 J (Qq J J J (QK J J J J J lInts J (Xc 9 X.bas.length J J J (by simp [ints]) J sInts (by omega) (by omega) J ?_))))); rw [k2]
              refine QK J J J J (Xs (by omega)) lInt J ?_
              refine QK J J J J J lInts J (Xc 9 X.bas.length J J J (by simp [ints]) J sInts (by omega) (by omega) J ?_); rw [k5]
              refine QK J J J J (Xs (by omega)) lInt J ?_
              refine Qk ilss J J J J (Q6 J J J J (Q2 J J J J (Qv (hK _ _ (Qz ?_))))); clear hK K; refine Q1 J (fun hb2 => ?_) (fun hb2 => ?_)
              · have hls2 := hls; rw [if_pos (.inr ⟨hc0, hb2⟩)] at hls2; skip; refine Xz mixed 3 (.p 0 (.p 2 (.f 1 (.a 3 .done)))) (by kernel_rfl) (fun K hK => ?_); refine Qq J J J (Qj J J J (Qd (n := 3) J J J J J Qg J (Q8 3 J J J J J szFrac J J (Qv (hK _ _ (Qz ?_)))))); clear hK K; refine Qx (fun K hK => ?_); refine Qq J J J (Qk (iadd (by omega) (by omega)) J J J J ?_); refine Qj J J J (Qv (hK _ _ (Q7 ?_))); clear hK K; refine Xy 3 (Qb (i + 1) (by omega) (by omega) (by rw [hls2]; exact QJ (by rw [hbi]; rfl) ⟨rfl, rfl, rfl, rfl, rfl, rfl, rfl, by simp only [Int.natCast_add]; rfl, trivial⟩))
              · have hls2 := hls; rw [if_neg (fun h => h.elim hc fun h => hb2 h.2)] at hls2; refine Q0 (Qz (Qx fun K hK => ?_)); refine Qq J J J (Qk (iadd (by omega) (by omega)) J J J J ?_); refine Qj J J J (Qv (hK _ _ (Q7 ?_))); clear hK K; refine Xy 3 (Qb (i + 1) (by omega) (by omega) (by rw [hls2]; exact QJ (by rw [hbl]; rfl) ⟨rfl, rfl, rfl, rfl, rfl, rfl, rfl, by simp only [Int.natCast_add]; rfl, trivial⟩))
            · have hls2 := hls; rw [if_neg (fun h => h.elim hc fun h => hc0 h.1)] at hls2; refine Qw J J J (Qw J J J (Qw J J J (Qw J J J (Qw J J J (Qw J J J (Qw J J J (Qw J J J (Qw J J J (Qw J J J (Qw J J J (Q2 J J J J (Q2 J J J J (Qv (hK _ _ (Qz (Qr J (Q0 (Qz ?_)))))))))))))))))); clear hK K; refine Qx (fun K hK => ?_); refine Qq J J J (Qk (iadd (by omega) (by omega)) J J J J ?_); refine Qj J J J (Qv (hK _ _ (Q7 ?_))); clear hK K; refine Xy 3 (Qb (i + 1) (by omega) (by omega) (by rw [hls2]; exact QJ (by rw [hbl]; rfl) ⟨rfl, rfl, rfl, rfl, rfl, rfl, rfl, by simp only [Int.natCast_add]; rfl, trivial⟩))
        · rw [if_pos (by omega)] at hls; have hls2 := hls; rw [show bstC X e (n + m + 1) (levR X e (n + m + 1) i) = [.ex (.bool false), .ex (.slice none 0 0), .ex (.slice none 0 0)] from if_pos (by omega)]; refine Q0 (Qz (Qy ?_)); refine Xz mixed 19 (.p 0 (.p 1 (.p 2 (.p 3 (.p 4 (.p 5 (.p 6 (.p 8 (.p 11 (.p 13 (.f 7 (.p 9 (.f 10 (.f 12 (.p 14 (.f 15 (.p 16 (.p 17 (.p 18 .done))))))))))))))))))) (by kernel_rfl) (fun K hK => ?_); refine Qq J J J (Qk ilss J J J J (Qq J J J (Qw J J J (Qw J J J (Qw J J J (Qw J J J (Qw J J J (Qw J J J (Qw J J J (Qw J J J (Qw J J J (Qw J J J (Qw J J J (Qw J J J (Qw J J J (Qw J J J (Qw J J J (Q6 J J J J (Qv (hK _ _ (Qz (Xq J ?_)))))))))))))))))))))); clear hK K; refine Xz mixed 3 (.p 0 (.p 2 (.f 1 (.a 3 .done)))) (by kernel_rfl) (fun K hK => ?_); refine Qq J J J (Qj J J J (Qd (n := 3) J J J J J Qg J (Q8 3 J J J J J szFrac J J (Qv (hK _ _ (Qz ?_)))))); clear hK K; refine Qx (fun K hK => ?_); refine Qq J J J (Qk (iadd (by omega) (by omega)) J J J J ?_); refine Qj J J J (Qv (hK _ _ (Q7 ?_))); clear hK K; refine Xy 3 (Qb (i + 1) (by omega) (by omega) (by rw [hls2]; exact QJ (by rw [hbi]; rfl) ⟨rfl, rfl, rfl, rfl, rfl, rfl, rfl, by simp only [Int.natCast_add]; rfl, trivial⟩))
    have hil : i = X.rows.length := by omega
    subst hil; refine Qm (Qz (Qy (Qy (Qx fun K hK => ?_)))); refine Qq J J J (Qk ilss J J J J (Qv (hK _ _ (Qz ?_)))); clear hK K; refine Q1 J (fun hl => ?_) (fun hl => ?_)
    · obtain ⟨rfl, rfl⟩ := hsome.1 hl; refine Qy (Qx fun K hK => ?_); refine Qd (n := 5) J J J J J lTab J (Qq J J J (Q8 5 J J J J J szTab5 J J (Qj J J J (Qv (hK _ _ (Qz (QU (QV (Q5 (QV (Q5 ?_))))))))))); clear hK K; refine Fin.retMS () [_, _] rfl (Qp (n := 5) J J lTab J (Qu J QQ)) J (te_sub (E := [(2, _), (1, _), (0, _)]) J) (fun i hi => absurd hi (by simp)) trivial
    · obtain ⟨k', X', rfl, hP, hb', hk'⟩ := hsome.2 (by omega); obtain ⟨l, hll⟩ : ∃ l : Nat, levR X e (n + m + 1) X.rows.length = l := ⟨(levR X e (n + m + 1) X.rows.length).toNat, by omega⟩; rw [hll, Int.toNat_natCast] at hP hb'; rw [hll]; have hpv := pivot34_ok n m W X.rows X'.rows X.goal X'.goal X.bas l e hP hT.b ar ab lr cr lb cb; rw [← hb'] at hpv; refine Q0 (Qz (Qx fun K hK => ?_)); refine Qd (n := 5) J J J J J lTab J (Qq J J J (Qq J J J (Zm [(2, _), (1, _), (0, _)] gopivot34 hpv J J J hbor J J J (fun _ _ => ?_)))); refine Q8 5 J J J J J szTab5 J J (Qv (hK _ _ (XJ (Q7 ?_)))); clear hK K; refine Xy 2 (Qb (k', X') (by dsimp only; omega) hk' (by exact QJ J ⟨rfl, rfl, rfl, trivial⟩))
attribute [local irreducible] OkF
theorem zeros34_F (n : Nat) (h1000 : n ≤ 1000) : OkF Tryz.prog 80 [intC n] 38 3 (frR (List.replicate n (some 0))) := by
  refine OkF.enter Tryz.func80 J _ Tryz.ntmps80 J ?_
  intro S w; refine Qy (Qx fun K hK => ?_); refine Qj J J J (Qv (hK _ _ (Qz (Qy ?_)))); clear hK K; refine Qx (fun K hK => ?_); refine Qq J J J (Z5 0 n J J J J sFracs (by omega) (by omega) J J J ?_); rw [frR_made, ← upO_zero (fun _ => 0)]; refine Qj J J J (Qv (hK _ _ (Qz (Qy (Qy ?_))))); clear hK K; refine Qx (fun K hK => ?_); refine Qj J J J (Qv (hK _ _ (Qz (Q4 ?_)))); clear hK K
  refine Qn (α := Nat) (fun i => i ≤ n)
    (fun i => [(0, .ct (intC n)), (3, .own 0), (4, .ct (intC i))]) (fun i => [(0, .row 38 3 (frR (upO (fun _ => 0) n i)))]) (fun i => n - i) 0 (Nat.zero_le _) (by exact QJ J ⟨rfl, rfl, rfl, trivial⟩) ?_
  intro i hi
  (try dsimp only at hi ⊢)
  refine Qy (Qy (Qx fun K hK => ?_)); refine Qq J J J (Qq J J J (Qk ilss J J J J (Qv (hK _ _ (Qz ?_))))); clear hK K; refine Q1 J (fun h => ?_) (fun h => ?_)
  · have e2 : (i : Int).toNat = i := Int.toNat_natCast i
    have hlt : i < n := by omega
    have eset := upO_set (fun _ => (0 : Rat)) hlt; have hW : Ok Tryz.prog 61 [intC 0] (ratC 0) := Z2 0 (by decide) (by decide); refine Q0 (Qz (Qy (Q4 (Qx fun K hK => ?_)))); refine Qq J J J (Qq J J J (QX Z9 hW J J J J (XX n J J J (by rw [ZW, Yh]) J sFracs (by omega) (by omega) J ?_))); rw [e2]
    refine stFr J J J J (by rw [Yh]; exact hlt) szFrac ?_
    rw [eset]; refine Qv (hK _ _ (Qz ?_)); clear hK K; refine Qx (fun K hK => ?_); refine Qq J J J (Qk (iadd (by omega) (by omega)) J J J J ?_); refine Qj J J J (Qv (hK _ _ (Q7 ?_))); clear hK K; refine Qb (i + 1) (by omega) (by omega) (by exact QJ J ⟨rfl, rfl, by simp only [Int.natCast_add]; rfl, trivial⟩)
  · have hi' : i = n := by omega
    subst hi'
    have ez : upO (fun _ => (0 : Rat)) i i = List.replicate i (some 0) := by
      rw [upO_done]
      apply List.ext_getElem?
      intro j; simp [List.getElem?_replicate]
      split <;> simp_all
    rw [ez]; refine Qm (Qz (Qy (Qx fun K hK => ?_))); refine Qq J J J (Qj J J J (Qv (hK _ _ (Qz (QU ?_))))); clear hK K; refine Fin.retF J J J J
theorem goduals34 : InGo Tryz.prog 84 := InGo.of Tryz.func84 (by kernel_rfl) (by kernel_rfl)
set_option maxHeartbeats 8000000 in
theorem duals34_ok (n m W : Nat) (X : TSt) (hT : Tok W X) (hW : n + m ≤ W) (ar ab : Option Addr) (lr cr lb cb : Nat) :
    Ok Tryz.prog 84 [taC n m (.slice ar lr cr) X.goal (.slice ab lb cb)] (ratsC ((List.range m).map fun i => X.goal.getD (n + i) 0)) := by
  have thin := hT.thin; have hg := hT.g
  refine Ok.enter Tryz.func84 J _ Tryz.ntmps84 J ?_
  intro S w; refine Qy (Qx fun K hK => ?_); refine Qh 0 J J J J J J J (Qj J J J (Qv (hK _ _ (Qz (Qy ?_))))); clear hK K; refine Qx (fun K hK => ?_); refine Qj J J J (Qv (hK _ _ (Qz (Qy (Qy ?_))))); clear hK K; refine Qx (fun K hK => ?_); refine Qj J J J (Qv (hK _ _ (Qz (Q4 ?_)))); clear hK K
  refine Zx 3 1 38 3 J J J ?_
  refine Qn (α := Nat) (fun i => i ≤ m)
    (fun i => [(1, .own 0), (3, .own 1), (4, .ct (intC i))]) (fun i => [(1, .row 38 3 (rts ((List.range i).map fun i => X.goal.getD (n + i) 0))), (0, .box 102 (taCs n m (.slice ar lr cr) X.goal (.slice ab lb cb)))]) (fun i => m - i) 0 (Nat.zero_le _) (by exact QJ J ⟨rfl, rfl, rfl, trivial⟩) ?_
  intro i hi
  (try dsimp only at hi ⊢)
  refine Qy (Qy (Qx fun K hK => ?_)); refine Qq J J J (QW J J J fG1 J (QK J J J J J lInt J (Qk ilss J J J J (Qv (hK _ _ (Qz ?_)))))); clear hK K; refine Q1 J (fun h => ?_) (fun h => ?_)
  · have e2 : ((n : Int) + i).toNat = n + i := by omega
    have q := hT.qg _ (Xj (z := (0 : Rat)) (show n + i < X.goal.length by omega)); have qn := q.n; have qd := q.d; have hRd := rFReduce_q (X.goal.getD (n + i) 0) (by omega) (by omega); refine Q0 (Qz (Qy (Q4 (Qx fun K hK => ?_)))); refine Qq J J J (QW J J J fG3 J (QK J J J J J lRat1 J (QW J J J fG0 J (QK J J J J J lInt J (Qq J J J (Qk (iadd (by omega) (by omega)) J J J J ?_))))))
    refine Qc J J J sFracs (by omega) (Xl (by omega) (by omega)) J ?_
    refine Xk (n := 3) J J J Qg J J ?_
    rw [e2]; skip; refine QX gorFReduce hRd J J J J (Ops.litN (n := 3) J J sFracs J J (by decide) J ?_)
    refine Qt i (rts ((List.range (i + 1)).map fun i => X.goal.getD (n + i) 0)) J J J J sFracs (by rw [rts_len]; simp) J (by omega) (by omega) (by rw [List.range_succ, List.map_append]; exact rts_snoc _ _) J ?_
    refine Qj J J J (Qv (hK _ _ (Qz ?_))); clear hK K; refine Qx (fun K hK => ?_); refine Qq J J J (Qk (iadd (by omega) (by omega)) J J J J ?_); refine Qj J J J (Qv (hK _ _ (Q7 ?_))); clear hK K; refine Qb (i + 1) (by omega) (by omega) (by exact QJ J ⟨rfl, rfl, by simp only [Int.natCast_add]; rfl, trivial⟩)
  · have hi' : i = m := by omega
    subst hi'; refine X6 1 _ J (rts_frozen _ _) XV (Qm (Qz (Qy (Qx fun K hK => ?_)))); refine Qq J J J (Qj J J J (Qv (hK _ _ (Qz (QU ?_))))); clear hK K; refine QY [_] rfl (Qu J QQ) J J
def ptR (X : TSt) (n e : Nat) : Nat → List Rat
  | 0 => List.replicate n 0
  | i + 1 => if X.bas.getD i 0 < n then (ptR X n e i).set (X.bas.getD i 0).toNat (X.at i e) else ptR X n e i
theorem ptR_len (X : TSt) (n e : Nat) : ∀ i, (ptR X n e i).length = n
  | 0 => by simp [ptR]
  | i + 1 => by simp only [ptR]; split <;> simp [ptR_len X n e i]
theorem gopoint34 : InGo Tryz.prog 88 := InGo.of Tryz.func88 (by kernel_rfl) (by kernel_rfl)
set_option maxHeartbeats 8000000 in
theorem point34_ok (n m W : Nat) (X : TSt) (hT : Tok W X) (hW : W = n + m + 2) (hb : ∀ i, 0 ≤ X.bas.getD i 0) (ar ab : Option Addr) (lr cr lb cb : Nat) :
    OkM Tryz.prog 88 [.ct (taC n m (.slice ar lr cr) X.goal (.slice ab lb cb))] (tEnt (.slice ar lr cr) X.rows (.slice ab lb cb) X.bas) [] (fun _ : Unit => True)
      (fun _ => .ct (ratsC (ptR X n (n + m + 1) X.rows.length))) (fun _ => tEnt (.slice ar lr cr) X.rows (.slice ab lb cb) X.bas) := by
  have few := hT.few; have thin := hT.thin; have hTb := hT.b
  refine OkM.enter Tryz.func88 J _ Tryz.ntmps88 J (fun i hi => absurd hi (by simp)) ?_
  intro S w ρ0 hbor; refine Qy (Qx fun K hK => ?_); refine Qh 0 J J J J J J J (Qj J J J (Qv (hK _ _ (Qz (Qy ?_))))); clear hK K; refine Qx (fun K hK => ?_); refine QW J J J fG0 J (QK J J J J J lInt J (Ops.callFr 2 gozeros34 (zeros34_F n (by omega)) J J J J J J ?_)); rw [show List.replicate n (some (0 : Rat)) = (ptR X n (n + m + 1) 0).map some by simp [ptR]]; refine Qj J J J (Qv (hK _ _ (Qz (Qy (Qy ?_))))); clear hK K; refine Qx (fun K hK => ?_); refine Qj J J J (Qv (hK _ _ (Qz (Q4 ?_)))); clear hK K
  refine Qn (α := Nat) (fun i => i ≤ X.rows.length)
    (fun i => [(1, .own 0), (3, .own 2), (4, .ct (intC i))])
    (fun i => (2, .row 38 3 (frR ((ptR X n (n + m + 1) i).map some))) :: (0, .box 102 (taCs n m (.slice ar lr cr) X.goal (.slice ab lb cb))) :: tEnt (.slice ar lr cr) X.rows (.slice ab lb cb) X.bas) (fun i => X.rows.length - i) 0 (Nat.zero_le _) (by exact QJ J ⟨rfl, rfl, rfl, trivial⟩) ?_
  intro i hi
  (try dsimp only at hi ⊢)
  have hpl := ptR_len X n (n + m + 1) i
  have hps : ptR X n (n + m + 1) (i + 1) = if X.bas.getD i 0 < n then (ptR X n (n + m + 1) i).set (X.bas.getD i 0).toNat (X.at i (n + m + 1)) else ptR X n (n + m + 1) i := rfl
  refine Qy (Qy (Qx fun K hK => ?_)); refine Qq J J J (QW J J J fG2 J (QK J J J J J lRat2 J (Ops.lenK 8 X.rows.length J J J (by decide) (rowsR_len _) sRat2.und J ?_))); refine Qk ilss J J J J (Qv (hK _ _ (Qz ?_))); clear hK K; refine Q1 J (fun h => ?_) (fun h => ?_)
  · have k2 : (i : Int).toNat * 1 = i := by omega
    have e4 : ((n : Int) + m + 1).toNat = n + m + 1 := by omega
    have hlt : i < X.rows.length := by omega
    have hwi := hT.w i hlt; have q := hT.q i hlt _ (Xj (z := (0 : Rat)) (show n + m + 1 < (X.rows.getD i []).length by omega)); have qn := q.n; have qd := q.d; have hRd := rFReduce_q ((X.rows.getD i []).getD (n + m + 1) 0) (by omega) (by omega); have hbi := hb i; refine Q0 (Qz (Qy (Q4 (Qy ?_)))); refine Xz mixed 8 (.p 0 (.p 2 (.p 5 (.f 1 (.p 3 (.f 4 (.f 6 (.p 7 .done)))))))) (by kernel_rfl) (fun K hK => ?_); refine QW J J J fG4 J (Qq J J J (QW J J J fG0 J (QK J J J J J lInts J (Xc 9 X.bas.length J J J (by simp [ints]) J sInts (by omega) (by omega) J ?_)))); rw [k2]
    refine QK J J J J (Xs (by omega)) lInt J ?_
    refine QK J J J J J lInt J (Qk ilss J J J J (Qv (hK _ _ (Qz ?_)))); clear hK K; refine Q1 J (fun h2 => ?_) (fun h2 => ?_)
    · rw [if_pos h2] at hps; obtain ⟨v, hv⟩ : ∃ v : Nat, X.bas.getD i 0 = v := ⟨(X.bas.getD i 0).toNat, by omega⟩; have e5 : (v : Int).toNat = v := Int.toNat_natCast v; rw [hv, e5] at hps; rw [hv] at h2; skip; refine Xz mixed 21 (.p 0 (.p 1 (.p 3 (.p 6 (.p 8 (.p 11 (.p 13 (.f 2 (.p 4 (.f 5 (.f 7 (.p 9 (.f 10 (.f 12 (.f 14 (.p 15 (.p 16 (.p 17 (.f 18 (.m 19 (.p 20 (.a 21 .done)))))))))))))))))))))) (by kernel_rfl) (fun K hK => ?_); refine Qq J J J (QW J J J fG4 J (Qq J J J (QW J J J fG2 J (Qq J J J (QW J J J fG0 J (QW J J J fG1 J (QK J J J J J lInts J (Xc 9 X.bas.length J J J (by simp [ints]) J sInts (by omega) (by omega) J ?_)))))))); rw [k2]
      refine QK J J J J (Xs (by omega)) lInt J ?_
      rw [hv]; refine QK J J J J J lRat2 J (Xc 8 X.rows.length J J J (rowsR_len _) J sRat2 (by omega) (by omega) J ?_); rw [k2]; refine QK J J J J (rowsR_at hlt) lRat1 J (QK J J J J J lInt J (QK J J J J J lInt J (Qk (iadd (by omega) (by omega)) J J J J ?_)))
      refine Qk (iadd (by omega) (by omega)) J J J J ?_
      refine Qc J J J sFracs (by omega) (Xl (by omega) (by omega)) J ?_
      refine Xk (n := 3) J J J Qg J J ?_
      rw [e4]; skip; refine QX gorFReduce hRd J J J J (XX n J J J (by rw [ZW, List.length_map, hpl]) J sFracs (by omega) (by omega) J ?_); rw [e5]
      refine stFr J J J J (by rw [List.length_map]; omega) szFrac ?_
      rw [show ((ptR X n (n + m + 1) i).map some).set v (some ((X.rows.getD i []).getD (n + m + 1) 0)) = (ptR X n (n + m + 1) (i + 1)).map some by rw [hps, List.map_set]; rfl]; refine Qv (hK _ _ (Qz ?_)); clear hK K; refine Qx (fun K hK => ?_); refine Qq J J J (Qk (iadd (by omega) (by omega)) J J J J ?_); refine Qj J J J (Qv (hK _ _ (Q7 ?_))); clear hK K; refine Qb (i + 1) (by omega) (by omega) (by exact QJ J ⟨rfl, rfl, by simp only [Int.natCast_add]; rfl, trivial⟩)
    · rw [if_neg h2] at hps; rw [← hps]; refine Q0 (Qz (Qx fun K hK => ?_)); refine Qq J J J (Qk (iadd (by omega) (by omega)) J J J J ?_); refine Qj J J J (Qv (hK _ _ (Q7 ?_))); clear hK K; refine Qb (i + 1) (by omega) (by omega) (by exact QJ J ⟨rfl, rfl, by simp only [Int.natCast_add]; rfl, trivial⟩)
  · have hi' : i = X.rows.length := by omega
    subst hi'; refine X6 2 _ J (frR_rats _ _) hbor (Qm (Qz (Qy (Qx fun K hK => ?_)))); refine Qq J J J (Qj J J J (Qv (hK _ _ (Qz (QU ?_))))); clear hK K; refine Fin.retMS () [_] rfl (Qu J QQ) J (te_sub (E := [(0, _)]) J) (fun i hi => absurd hi (by simp)) trivial
theorem zRat2 : (Tryz.prog.info? 34).map (·.size) = some 1 := by kernel_rfl
theorem bTab34 : bInfo Tryz.prog 102 = some (.agg #[.int .i64 0, .int .i64 0, .slice none 0 0, .slice none 0 0, .slice none 0 0], [(0, some 1), (1, some 1), (2, some 1), (3, some 1), (4, some 1)]) := by kernel_rfl
def cfR (cs : List Int) (W k : Nat) : List Rat := (List.range W).map fun c => if c < k then ((cs.getD c 0 : Int) : Rat) else 0
theorem cfR_len (cs : List Int) (W k : Nat) : (cfR cs W k).length = W := by simp [cfR]
theorem cfR_zero (cs : List Int) (W : Nat) : cfR cs W 0 = List.replicate W 0 := by
  unfold cfR
  apply List.ext_getElem?
  intro j; simp [List.getElem?_replicate]
  split <;> simp_all
theorem cfR_set (cs : List Int) {W k : Nat} (h : k < W) : (cfR cs W k).set k ((cs.getD k 0 : Int) : Rat) = cfR cs W (k + 1) := by
  unfold cfR
  apply List.ext_getElem?
  intro q; rw [List.getElem?_set]; by_cases hq : k = q
  · subst hq; simp [h]
  · rw [if_neg hq]; simp only [List.getElem?_map]
    cases e : (List.range W)[q]? with
    | none => rfl
    | some x =>
      obtain ⟨h1, h2⟩ := List.getElem?_eq_some_iff.1 e; simp at h2; subst h2; simp only [Option.map_some]
      congr 1
      by_cases h3 : q < k
      · rw [if_pos h3, if_pos (by omega)]
      · rw [if_neg h3, if_neg (by omega)]
def stRow (n m i : Nat) (r : Rw) : List Rat := (((cfR r.cs (n + m + 2) r.cs.length).set (n + i) 1).set (n + m) (-1)).set (n + m + 1) ((r.b : Int) : Rat)
def stRows (n : Nat) (rs : List Rw) : List (List Rat) := (List.range rs.length).map fun i => stRow n rs.length i (rs.getD i rw0)
def stRowsK (n : Nat) (rs : List Rw) (k : Nat) : List (List Rat) := (List.range k).map fun i => stRow n rs.length i (rs.getD i rw0)
theorem gostart34 : InGo Tryz.prog 79 := InGo.of Tryz.func79 (by kernel_rfl) (by kernel_rfl)
set_option maxHeartbeats 32000000 in
theorem start34_ok (n : Nat) (rs : List Rw) (hn : n ≤ 50) (hm : rs.length ≤ 90) (hr : ∀ r ∈ rs, OkRw n r) :
    OkM Tryz.prog 79 [.ct (intC n), .ct (rowsC rs)] [] [] (fun q : Value × Value => IsH rs.length q.1 ∧ IsH rs.length q.2)
      (fun q => .ct (.fr (aggT [intC n, intC rs.length, .ex q.1, .ex (.slice none 0 0), .ex q.2]))) (fun q => tEnt q.1 (stRows n rs) q.2 (rng n rs.length)) := by
  refine OkM.enter Tryz.func79 J _ Tryz.ntmps79 J (fun i hi => by cases hi) ?_
  intro S w ρ0 hbor; refine Qy (Qx fun K hK => ?_); refine Qa 0 J J zvTab J J J (Qv (hK _ _ (Qz (Qy ?_)))); clear hK K; refine Qx (fun K hK => ?_); refine Qq J J J (Q3 J J sRows.und (List.length_map ..) J (Qj J J J (Qv (hK _ _ (Qz (Qy ?_)))))); clear hK K; refine Qx (fun K hK => ?_); refine Qq J J J (Qq J J J (Xa J bTab34 J (.one J J J J (.one J J J J .nil)) J (Qa 1 J J zvTab J J J (Q8 5 J J J J J szTab5 J J (Qv (hK _ _ (Qz (Qy (Qy ?_))))))))); clear hK K; refine Qx (fun K hK => ?_); refine Qj J J J (Qv (hK _ _ (Qz (Q4 ?_)))); clear hK K; refine St.nilX 8 25 1 J J (St.nilX 9 3 1 J J ?_)
  refine Qn (α := Nat × Value × Value) (fun x => x.1 ≤ rs.length ∧ IsH x.1 x.2.1 ∧ IsH x.1 x.2.2)
    (fun x => [(0, .ct (intC n)), (1, .ct (rowsC rs)), (4, .own 0), (5, .ct (intC rs.length)), (6, .own 1), (7, .ct (intC x.1))])
    (fun x => [(9, .rowx x.2.2 3 1 (ints (rng n x.1))), (8, .rowx x.2.1 25 1 (rowsR (stRowsK n rs x.1))), (1, .box 102 [intC n, intC rs.length, .ex x.2.1, .ex (.slice none 0 0), .ex x.2.2]), (0, .box 102 [.ex (.int .i64 0), .ex (.int .i64 0), .ex (.slice none 0 0), .ex (.slice none 0 0), .ex (.slice none 0 0)])])
    (fun x => rs.length - x.1) (0, .slice none 0 0, .slice none 0 0) ⟨Nat.zero_le _, .inl ⟨rfl, rfl⟩, .inl ⟨rfl, rfl⟩⟩ (by exact QJ J ⟨rfl, rfl, rfl, rfl, rfl, rfl, trivial⟩) ?_
  rintro ⟨i, hR, hB⟩ ⟨hi, hHR, hHB⟩
  dsimp only at hi hHR hHB ⊢; have oneR := hHR.one; have oneB := hHB.one; refine Qy (Qy (Qx fun K hK => ?_)); refine Qq J J J (Qq J J J (Qk ilss J J J J (Qv (hK _ _ (Qz ?_))))); clear hK K; refine Q1 J (fun h => ?_) (fun h => ?_)
  · have hi2 : i < rs.length := by omega
    have e2 : (i : Int).toNat = i := Int.toNat_natCast i; have hrw : OkRw n (rs.getD i rw0) := hr _ (Xj hi2)
    have hzl : (stRowsK n rs i).length = i := by simp [stRowsK]
    have hzs : stRowsK n rs (i + 1) = stRowsK n rs i ++ [stRow n rs.length i (rs.getD i rw0)] := by unfold stRowsK; rw [List.range_succ, List.map_append]; rfl
    have hlen := hrw.len; have hcs := hrw.cs; have hb1 := hrw.b1; have hb2 := hrw.b2; refine Q0 (Qz (Qy (Q4 (Qy (Qx fun K hK => ?_))))); refine Qq J J J (Qq J J J (Qk (iadd (by omega) (by omega)) J J J J ?_))
    refine Qk (iadd (by omega) (by omega)) J J J J ?_
    refine Z5 2 (n + rs.length + 2) J J J (by omega) sFracs (by omega) (by omega) J J J ?_
    rw [frR_made, ← upO_zero (fun _ => 0)]; refine Qj J J J (Qv (hK _ _ (Qz (Qy (Qy ?_))))); clear hK K; refine Qx (fun K hK => ?_); refine Qj J J J (Qv (hK _ _ (Qz (Q4 ?_)))); clear hK K
    refine Qn (α := Nat) (fun k => k ≤ n + rs.length + 2)
      (fun k => [(0, .ct (intC n)), (1, .ct (rowsC rs)), (4, .own 0), (5, .ct (intC rs.length)), (6, .own 1), (7, .ct (intC i)), (8, .own 2), (9, .ct (intC k))]) (fun k => [(2, .row 38 3 (frR (upO (fun _ => 0) (n + rs.length + 2) k))), (9, .rowx hB 3 1 (ints (rng n i))), (8, .rowx hR 25 1 (rowsR (stRowsK n rs i))), (1, .box 102 [intC n, intC rs.length, .ex hR, .ex (.slice none 0 0), .ex hB]), (0, .box 102 [.ex (.int .i64 0), .ex (.int .i64 0), .ex (.slice none 0 0), .ex (.slice none 0 0), .ex (.slice none 0 0)])]) (fun k => n + rs.length + 2 - k) 0 (Nat.zero_le _) (by exact QJ J ⟨rfl, rfl, rfl, rfl, rfl, rfl, rfl, rfl, trivial⟩) ?_
    intro k hk
    (try dsimp only at hk ⊢)
    refine Qy (Qy (Qx fun K hK => ?_)); refine Qq J J J (Qq J J J (Ops.lenR (n + rs.length + 2) J J J (by decide) (by rw [ZW, Yh]) sFracs.und J ?_)); refine Qk ilss J J J J (Qv (hK _ _ (Qz ?_))); clear hK K; refine Q1 J (fun h1 => ?_) (fun h1 => ?_)
    · have e3 : (k : Int).toNat = k := Int.toNat_natCast k; have eset := upO_set (fun _ => (0 : Rat)) (show k < n + rs.length + 2 by omega); have hW : Ok Tryz.prog 61 [intC 0] (ratC 0) := Z2 0 (by decide) (by decide); refine Q0 (Qz (Qy (Q4 (Qx fun K hK => ?_)))); refine Qq J J J (Qq J J J (QX Z9 hW J J J J (XX (n + rs.length + 2) J J J (by rw [ZW, Yh]) J sFracs (by omega) (by omega) J ?_))); rw [e3]
      refine stFr J J J J (by rw [Yh]; omega) szFrac ?_
      rw [eset]; refine Qv (hK _ _ (Qz ?_)); clear hK K; refine Qx (fun K hK => ?_); refine Qq J J J (Qk (iadd (by omega) (by omega)) J J J J ?_); refine Qj J J J (Qv (hK _ _ (Q7 ?_))); clear hK K; refine Qb (k + 1) (by omega) (by omega) (by exact QJ J ⟨rfl, rfl, rfl, rfl, rfl, rfl, rfl, by simp only [Int.natCast_add]; rfl, trivial⟩)
    have hkW : k = n + rs.length + 2 := by omega
    have ez : upO (fun _ => (0 : Rat)) (n + rs.length + 2) k = (cfR (rs.getD i rw0).cs (n + rs.length + 2) 0).map some := by
      rw [hkW, upO_done, cfR_zero]
      apply List.ext_getElem?
      intro j; simp [List.getElem?_replicate]
      split <;> simp_all
    rw [ez]; clear ez hkW h1; refine Qm (Qz (Qy (Qy (Qx fun K hK => ?_)))); refine Qj J J J (Qv (hK _ _ (Qz (Q4 ?_)))); clear hK K
    refine Qn (α := Nat) (fun k => k ≤ (rs.getD i rw0).cs.length)
      (fun k => [(0, .ct (intC n)), (1, .ct (rowsC rs)), (4, .own 0), (5, .ct (intC rs.length)), (6, .own 1), (7, .ct (intC i)), (8, .own 2), (10, .ct (intC k))]) (fun k => [(2, .row 38 3 (frR ((cfR (rs.getD i rw0).cs (n + rs.length + 2) k).map some))), (9, .rowx hB 3 1 (ints (rng n i))), (8, .rowx hR 25 1 (rowsR (stRowsK n rs i))), (1, .box 102 [intC n, intC rs.length, .ex hR, .ex (.slice none 0 0), .ex hB]), (0, .box 102 [.ex (.int .i64 0), .ex (.int .i64 0), .ex (.slice none 0 0), .ex (.slice none 0 0), .ex (.slice none 0 0)])]) (fun k => (rs.getD i rw0).cs.length - k) 0 (Nat.zero_le _) (by exact QJ J ⟨rfl, rfl, rfl, rfl, rfl, rfl, rfl, rfl, trivial⟩) ?_
    intro k hk
    (try dsimp only at hk ⊢)
    refine Qy (Qy (Qx fun K hK => ?_)); refine Qq J J J (Qq J J J (Qq J J J (Qc J J J sRows (by omega) (ZQ (by omega) (by omega)) J ?_))); refine ZJ J J fR0 J (Ql J J J lInts J (Q3 J J sInts.und (List.length_map ..) J (Qk ilss J J J J (Qv (hK _ _ (Qz ?_)))))); clear hK K; rw [e2]; skip; refine Q1 J (fun h1 => ?_) (fun h1 => ?_)
    · have e3 : (k : Int).toNat = k := Int.toNat_natCast k; have bq := hcs.get k; have eset := cfR_set (rs.getD i rw0).cs (show k < n + rs.length + 2 by omega); have hW := Z2 ((rs.getD i rw0).cs.getD k 0) (by omega) (by omega); have hcl := cfR_len (rs.getD i rw0).cs (n + rs.length + 2) k; refine Q0 (Qz (Qy (Q4 (Qx fun K hK => ?_)))); refine Qq J J J (Qq J J J (Qq J J J (Qq J J J (Qc J J J sRows (by omega) (ZQ (by omega) (by omega)) J ?_)))); refine ZJ J J fR0 J (Ql J J J lInts J (Qq J J J ?_)); rw [e2]
      refine Qc J J J sInts (by omega) (Xw (by omega) (by omega)) J ?_
      refine Ql J J J lInt J ?_
      rw [e3]; refine QX Z9 hW J J J J (XX (n + rs.length + 2) J J J (by rw [ZW, List.length_map, hcl]) J sFracs (by omega) (by omega) J ?_); rw [e3]
      refine stFr J J J J (by rw [List.length_map, hcl]; omega) szFrac ?_
      rw [← List.map_set, eset]; refine Qv (hK _ _ (Qz ?_)); clear hK K; refine Qx (fun K hK => ?_); refine Qq J J J (Qk (iadd (by omega) (by omega)) J J J J ?_); refine Qj J J J (Qv (hK _ _ (Q7 ?_))); clear hK K; refine Qb (k + 1) (by omega) (by omega) (by exact QJ J ⟨rfl, rfl, rfl, rfl, rfl, rfl, rfl, by simp only [Int.natCast_add]; rfl, trivial⟩)
    have hkC : k = (rs.getD i rw0).cs.length := by omega
    subst hkC; have hW1 : Ok Tryz.prog 61 [intC 1] (ratC 1) := Z2 1 (by decide) (by decide); have hWm : Ok Tryz.prog 61 [intC (-1)] (ratC (-1)) := Z2 (-1) (by decide) (by decide); have hWb := Z2 (rs.getD i rw0).b (by omega) (by omega); have hst : stRow n rs.length i (rs.getD i rw0) = (((cfR (rs.getD i rw0).cs (n + rs.length + 2) (rs.getD i rw0).cs.length).set (n + i) 1).set (n + rs.length) (-1)).set (n + rs.length + 1) (((rs.getD i rw0).b : Int) : Rat) := rfl; have hcl := cfR_len (rs.getD i rw0).cs (n + rs.length + 2) (rs.getD i rw0).cs.length
    have p1 : ((n : Int) + i).toNat = n + i := by omega
    have p2 : ((n : Int) + rs.length).toNat = n + rs.length := by omega
    have p3 : ((n : Int) + rs.length + 1).toNat = n + rs.length + 1 := by omega
    generalize cfR (rs.getD i rw0).cs (n + rs.length + 2) (rs.getD i rw0).cs.length = cur at hcl hst ⊢; refine Qm (Qz (Qy ?_)); refine Xz mixed 22 (.p 0 (.p 1 (.p 2 (.p 3 (.p 4 (.p 5 (.p 6 (.p 7 (.p 8 (.p 9 (.p 10 (.p 11 (.p 12 (.p 15 (.p 16 (.p 17 (.p 18 (.f 19 (.m 13 (.m 14 (.m 20 (.p 21 (.a 22 (.p 23 (.a 24 (.p 25 (.a 26 .done))))))))))))))))))))))))))) (by kernel_rfl) (fun K hK => ?_); refine Qq J J J (Qq J J J (Qq J J J (Qk (iadd (by omega) (by omega)) J J J J ?_))); refine Qq J J J (Qq J J J (Qq J J J (Qk (iadd (by omega) (by omega)) J J J J ?_))); refine Qq J J J (Qq J J J (Qq J J J (Qk (iadd (by omega) (by omega)) J J J J ?_)))
    refine Qk (iadd (by omega) (by omega)) J J J J ?_
    refine Qq J J J (Qq J J J (Qc J J J sRows (by omega) (ZQ (by omega) (by omega)) J ?_)); refine ZJ J J fR1 J (Ql J J J lInt J ?_); rw [e2]; skip; refine QX Z9 hW1 J J J J (QX Z9 hWm J J J J (QX Z9 hWb J J J J (XX (n + rs.length + 2) J J J (by rw [ZW, List.length_map, hcl]) J sFracs (by omega) (by omega) J ?_))); rw [p1]
    refine stFr J J J J (by rw [List.length_map, hcl]; omega) szFrac ?_
    rw [← List.map_set]
    refine XX (n + rs.length + 2) J J J (by rw [ZW, List.length_map, List.length_set, hcl]) J sFracs (by omega) (by omega) J ?_
    rw [p2]
    refine stFr J J J J (by rw [List.length_map, List.length_set, hcl]; omega) szFrac ?_
    rw [← List.map_set]
    refine XX (n + rs.length + 2) J J J (by rw [ZW, List.length_map, List.length_set, List.length_set, hcl]) J sFracs (by omega) (by omega) J ?_
    rw [p3]
    refine stFr J J J J (by rw [List.length_map, List.length_set, List.length_set, hcl]; omega) szFrac ?_
    rw [← List.map_set, ← hst]
    refine Zb 2 _ J (frR_rats _ _) hbor ?_
    clear hst hcl hW1 hWm hWb; generalize stRow n rs.length i (rs.getD i rw0) = line at hzs ⊢; generalize stRowsK n rs i = zs at hzl hzs ⊢; refine Qv (hK _ _ (Qz ?_)); clear hK K; refine St.drawQ mixed [4, 11, 13, 15] (.p 0 (.p 2 (.p 5 (.p 7 (.p 8 (.p 9 (.f 1 (.m 3 (.a 4 (.m 6 (.p 12 (.m 10 (.a 11 (.a 13 (.p 14 (.a 15 .done .non)) .non) .non) .non)) (.m 10 (.m 6 (.p 12 (.a 11 (.a 13 (.p 14 (.a 15 .done .non)) .non) .non)) .non) .non)) (.m 6 (.a 4 (.p 12 (.m 10 (.a 11 (.a 13 (.p 14 (.a 15 .done .non)) .non) .non) .non)) (.m 10 (.a 4 (.p 12 (.a 11 (.a 13 (.p 14 (.a 15 .done .non)) .non) .non)) .non) .non)) (.m 10 (.a 4 (.m 6 (.p 12 (.a 11 (.a 13 (.p 14 (.a 15 .done .non)) .non) .non)) .non) (.m 6 (.a 4 (.p 12 (.a 11 (.a 13 (.p 14 (.a 15 .done .non)) .non) .non)) .non) .non)) .non))) (.m 6 (.m 3 (.a 4 (.p 12 (.m 10 (.a 11 (.a 13 (.p 14 (.a 15 .done .non)) .non) .non) .non)) (.m 10 (.a 4 (.p 12 (.a 11 (.a 13 (.p 14 (.a 15 .done .non)) .non) .non)) .non) .non)) (.m 10 (.m 3 (.a 4 (.p 12 (.a 11 (.a 13 (.p 14 (.a 15 .done .non)) .non) .non)) .non) .non) .non)) (.m 10 (.m 3 (.a 4 (.m 6 (.p 12 (.a 11 (.a 13 (.p 14 (.a 15 .done .non)) .non) .non)) .non) (.m 6 (.a 4 (.p 12 (.a 11 (.a 13 (.p 14 (.a 15 .done .non)) .non) .non)) .non) .non)) (.m 6 (.m 3 (.a 4 (.p 12 (.a 11 (.a 13 (.p 14 (.a 15 .done .non)) .non) .non)) .non) .non) .non)) .non)))))))))) (by kernel_rfl) (fun K hK => ?_)
    refine (fun (cont : ∀ x : Nat × Nat × Nat × Nat, (i + 1 ≤ x.2.1 ∧ x.2.1 ≤ maxLen ∧ i + 1 ≤ x.2.2.2 ∧ x.2.2.2 ≤ maxLen) → Go.Own.Fin _ [(0, .ct (intC n)), (1, .ct (rowsC rs)), (4, .own 0), (5, .ct (intC rs.length)), (6, .own 1), (7, .ct (intC i))]
      [(9, .rowx (.slice (some ⟨x.2.2.1, 0, none⟩) (i + 1) x.2.2.2) 3 1 (ints (rng n (i + 1)))), (8, .rowx (.slice (some ⟨x.1, 0, none⟩) (i + 1) x.2.1) 25 1 (rowsR (zs ++ [line]))), (1, .box 102 [intC n, intC rs.length, .ex (.slice (some ⟨x.1, 0, none⟩) (i + 1) x.2.1), .ex (.slice none 0 0), .ex (.slice (some ⟨x.2.2.1, 0, none⟩) (i + 1) x.2.2.2)]), (0, .box 102 [.ex (.int .i64 0), .ex (.int .i64 0), .ex (.slice none 0 0), .ex (.slice none 0 0), .ex (.slice none 0 0)])] K) => ?_) (fun x hx => hK _ _ ?_)
    rotate_left
    · obtain ⟨g1, c1, g2, c2⟩ := x; obtain ⟨e1, e2', e3', e4'⟩ := hx; dsimp only at e1 e2' e3' e4' ⊢; clear hK K; rw [← hzs]; refine Qz (Qx fun K hK => ?_); refine Qq J J J (Qk (iadd (by omega) (by omega)) J J J J ?_); refine Qj J J J (Qv (hK _ _ (Q7 ?_))); clear hK K; refine Qb (i + 1, .slice (some ⟨g1, 0, none⟩) (i + 1) c1, .slice (some ⟨g2, 0, none⟩) (i + 1) c2) (by dsimp only; omega) ⟨by dsimp only; omega, .inr ⟨by dsimp only; omega, g1, c1, e1, e2', rfl⟩, .inr ⟨by dsimp only; omega, g2, c2, e3', e4', rfl⟩⟩ (by exact QJ J ⟨rfl, rfl, rfl, rfl, rfl, by simp only [Int.natCast_add]; rfl, trivial⟩)
    clear hK; refine X3 (QW J J J fG2 J (Qv ?_)); refine X3 (Qq J J J (Qv ?_)); refine X3 (QW J J J fG4 J (Qv ?_)); refine X3 (Qq J J J (Qv ?_)); refine X3 (Qq J J J (Qv ?_)); refine X3 (Qk (iadd (by omega) (by omega)) J J J J (Qv ?_)); refine Fin.qf (QK J J J J J lRat2 J (Qv ?_))
    refine Xi ?_ ?_
    · refine XZ J J sRat2 J J J (Qv (XK ?_ ?_))
      · refine Xf 83 8 J J (Qt i (rowsR (zs ++ [line])) J J J J sRat2 (by rw [rowsR_len, hzl]) J (by omega) (by omega) (by simp [rowsR]) J ?_); refine X9 86 8 (i + 1) J J (by rw [rowsR_len, List.length_append, hzl]; rfl) (by omega) (by decide) (fun g1 c1 e1 e2 => ?_); refine Qv (Xi ?_ ?_)
        · refine QK J J J J J lInts J (Qv (X3 (QW J J J fG2 J (Qv ?_))))
          refine Xi ?_ ?_
          · refine XZ J J sInts J J J (Qv (XK ?_ Qo)); refine Xf 88 9 J J (Qt i (ints (rng n (i + 1))) J J J J sInts (by simp [X8]) J (by omega) (by omega) (by rw [Yz, Yj, Int.natCast_add]; rfl) J ?_); refine X9 93 9 (i + 1) J J (by simp [X8]) (by omega) (by decide) (fun g2 c2 e3 e4 => ?_); refine Qv (XK (Xv J J J J J zRat2 (Nat.le_of_ble_eq_true J) (Qv ?_)) Qo); refine X3 (QW J J J fG4 J (Qv ?_)); refine XK (Xv J J J J J zInts (Nat.le_of_ble_eq_true J) (Qv ?_)) Qo; exact Xo (XW cont (g1, c1, g2, c2) ⟨e1, e2, e3, e4⟩ (by exact QJ J ⟨rfl, rfl, rfl, rfl, rfl, rfl, trivial⟩))
          exact Qo
        refine Xi ?_ ?_
        · refine XZ J J sInts J J J (Qv (Xi ?_ ?_))
          · refine QK J J J J J lInts J (Qv (X3 (QW J J J fG2 J (Qv ?_))))
            refine XK ?_ Qo
            refine Xf 88 9 J J (Qt i (ints (rng n (i + 1))) J J J J sInts (by simp [X8]) J (by omega) (by omega) (by rw [Yz, Yj, Int.natCast_add]; rfl) J ?_); refine X9 93 9 (i + 1) J J (by simp [X8]) (by omega) (by decide) (fun g2 c2 e3 e4 => ?_); refine Qv (XK (Xv J J J J J zRat2 (Nat.le_of_ble_eq_true J) (Qv ?_)) Qo); refine X3 (QW J J J fG4 J (Qv ?_)); refine XK (Xv J J J J J zInts (Nat.le_of_ble_eq_true J) (Qv ?_)) Qo; exact Xo (XW cont (g1, c1, g2, c2) ⟨e1, e2, e3, e4⟩ (by exact QJ J ⟨rfl, rfl, rfl, rfl, rfl, rfl, trivial⟩))
          exact Qo
        exact Qo
      refine Xi ?_ ?_
      · refine QK J J J J J lInts J (Qv (XK ?_ ?_))
        · refine Xf 83 8 J J (Qt i (rowsR (zs ++ [line])) J J J J sRat2 (by rw [rowsR_len, hzl]) J (by omega) (by omega) (by simp [rowsR]) J ?_); refine X9 86 8 (i + 1) J J (by rw [rowsR_len, List.length_append, hzl]; rfl) (by omega) (by decide) (fun g1 c1 e1 e2 => ?_); refine Qv (X3 (QW J J J fG2 J (Qv ?_)))
          refine Xi ?_ ?_
          · refine XZ J J sInts J J J (Qv (XK ?_ Qo)); refine Xf 88 9 J J (Qt i (ints (rng n (i + 1))) J J J J sInts (by simp [X8]) J (by omega) (by omega) (by rw [Yz, Yj, Int.natCast_add]; rfl) J ?_); refine X9 93 9 (i + 1) J J (by simp [X8]) (by omega) (by decide) (fun g2 c2 e3 e4 => ?_); refine Qv (XK (Xv J J J J J zRat2 (Nat.le_of_ble_eq_true J) (Qv ?_)) Qo); refine X3 (QW J J J fG4 J (Qv ?_)); refine XK (Xv J J J J J zInts (Nat.le_of_ble_eq_true J) (Qv ?_)) Qo; exact Xo (XW cont (g1, c1, g2, c2) ⟨e1, e2, e3, e4⟩ (by exact QJ J ⟨rfl, rfl, rfl, rfl, rfl, rfl, trivial⟩))
          exact Qo
        refine Xi ?_ ?_
        · refine XZ J J sInts J J J (Qv (XK ?_ ?_))
          · refine Xf 83 8 J J (Qt i (rowsR (zs ++ [line])) J J J J sRat2 (by rw [rowsR_len, hzl]) J (by omega) (by omega) (by simp [rowsR]) J ?_); refine X9 86 8 (i + 1) J J (by rw [rowsR_len, List.length_append, hzl]; rfl) (by omega) (by decide) (fun g1 c1 e1 e2 => ?_); refine Qv (X3 (QW J J J fG2 J (Qv ?_)))
            refine XK ?_ Qo
            refine Xf 88 9 J J (Qt i (ints (rng n (i + 1))) J J J J sInts (by simp [X8]) J (by omega) (by omega) (by rw [Yz, Yj, Int.natCast_add]; rfl) J ?_); refine X9 93 9 (i + 1) J J (by simp [X8]) (by omega) (by decide) (fun g2 c2 e3 e4 => ?_); refine Qv (XK (Xv J J J J J zRat2 (Nat.le_of_ble_eq_true J) (Qv ?_)) Qo); refine X3 (QW J J J fG4 J (Qv ?_)); refine XK (Xv J J J J J zInts (Nat.le_of_ble_eq_true J) (Qv ?_)) Qo; exact Xo (XW cont (g1, c1, g2, c2) ⟨e1, e2, e3, e4⟩ (by exact QJ J ⟨rfl, rfl, rfl, rfl, rfl, rfl, trivial⟩))
          exact Qo
        exact Qo
      refine Xi ?_ ?_
      · refine XZ J J sInts J J J (Qv (XK ?_ ?_))
        · refine Xf 83 8 J J (Qt i (rowsR (zs ++ [line])) J J J J sRat2 (by rw [rowsR_len, hzl]) J (by omega) (by omega) (by simp [rowsR]) J ?_); refine X9 86 8 (i + 1) J J (by rw [rowsR_len, List.length_append, hzl]; rfl) (by omega) (by decide) (fun g1 c1 e1 e2 => ?_); refine Qv (Xi ?_ ?_)
          · refine QK J J J J J lInts J (Qv (X3 (QW J J J fG2 J (Qv ?_))))
            refine XK ?_ Qo
            refine Xf 88 9 J J (Qt i (ints (rng n (i + 1))) J J J J sInts (by simp [X8]) J (by omega) (by omega) (by rw [Yz, Yj, Int.natCast_add]; rfl) J ?_); refine X9 93 9 (i + 1) J J (by simp [X8]) (by omega) (by decide) (fun g2 c2 e3 e4 => ?_); refine Qv (XK (Xv J J J J J zRat2 (Nat.le_of_ble_eq_true J) (Qv ?_)) Qo); refine X3 (QW J J J fG4 J (Qv ?_)); refine XK (Xv J J J J J zInts (Nat.le_of_ble_eq_true J) (Qv ?_)) Qo; exact Xo (XW cont (g1, c1, g2, c2) ⟨e1, e2, e3, e4⟩ (by exact QJ J ⟨rfl, rfl, rfl, rfl, rfl, rfl, trivial⟩))
          exact Qo
        refine Xi ?_ ?_
        · refine QK J J J J J lInts J (Qv (XK ?_ ?_))
          · refine Xf 83 8 J J (Qt i (rowsR (zs ++ [line])) J J J J sRat2 (by rw [rowsR_len, hzl]) J (by omega) (by omega) (by simp [rowsR]) J ?_); refine X9 86 8 (i + 1) J J (by rw [rowsR_len, List.length_append, hzl]; rfl) (by omega) (by decide) (fun g1 c1 e1 e2 => ?_); refine Qv (X3 (QW J J J fG2 J (Qv ?_)))
            refine XK ?_ Qo
            refine Xf 88 9 J J (Qt i (ints (rng n (i + 1))) J J J J sInts (by simp [X8]) J (by omega) (by omega) (by rw [Yz, Yj, Int.natCast_add]; rfl) J ?_); refine X9 93 9 (i + 1) J J (by simp [X8]) (by omega) (by decide) (fun g2 c2 e3 e4 => ?_); refine Qv (XK (Xv J J J J J zRat2 (Nat.le_of_ble_eq_true J) (Qv ?_)) Qo); refine X3 (QW J J J fG4 J (Qv ?_)); refine XK (Xv J J J J J zInts (Nat.le_of_ble_eq_true J) (Qv ?_)) Qo; exact Xo (XW cont (g1, c1, g2, c2) ⟨e1, e2, e3, e4⟩ (by exact QJ J ⟨rfl, rfl, rfl, rfl, rfl, rfl, trivial⟩))
          exact Qo
        exact Qo
      exact Qo
    refine Xi ?_ ?_
    · refine QK J J J J J lInts J (Qv (Xi ?_ ?_))
      · refine XZ J J sRat2 J J J (Qv (XK ?_ ?_))
        · refine Xf 83 8 J J (Qt i (rowsR (zs ++ [line])) J J J J sRat2 (by rw [rowsR_len, hzl]) J (by omega) (by omega) (by simp [rowsR]) J ?_); refine X9 86 8 (i + 1) J J (by rw [rowsR_len, List.length_append, hzl]; rfl) (by omega) (by decide) (fun g1 c1 e1 e2 => ?_); refine Qv (X3 (QW J J J fG2 J (Qv ?_)))
          refine Xi ?_ ?_
          · refine XZ J J sInts J J J (Qv (XK ?_ Qo)); refine Xf 88 9 J J (Qt i (ints (rng n (i + 1))) J J J J sInts (by simp [X8]) J (by omega) (by omega) (by rw [Yz, Yj, Int.natCast_add]; rfl) J ?_); refine X9 93 9 (i + 1) J J (by simp [X8]) (by omega) (by decide) (fun g2 c2 e3 e4 => ?_); refine Qv (XK (Xv J J J J J zRat2 (Nat.le_of_ble_eq_true J) (Qv ?_)) Qo); refine X3 (QW J J J fG4 J (Qv ?_)); refine XK (Xv J J J J J zInts (Nat.le_of_ble_eq_true J) (Qv ?_)) Qo; exact Xo (XW cont (g1, c1, g2, c2) ⟨e1, e2, e3, e4⟩ (by exact QJ J ⟨rfl, rfl, rfl, rfl, rfl, rfl, trivial⟩))
          exact Qo
        refine Xi ?_ ?_
        · refine XZ J J sInts J J J (Qv (XK ?_ ?_))
          · refine Xf 83 8 J J (Qt i (rowsR (zs ++ [line])) J J J J sRat2 (by rw [rowsR_len, hzl]) J (by omega) (by omega) (by simp [rowsR]) J ?_); refine X9 86 8 (i + 1) J J (by rw [rowsR_len, List.length_append, hzl]; rfl) (by omega) (by decide) (fun g1 c1 e1 e2 => ?_); refine Qv (X3 (QW J J J fG2 J (Qv ?_)))
            refine XK ?_ Qo
            refine Xf 88 9 J J (Qt i (ints (rng n (i + 1))) J J J J sInts (by simp [X8]) J (by omega) (by omega) (by rw [Yz, Yj, Int.natCast_add]; rfl) J ?_); refine X9 93 9 (i + 1) J J (by simp [X8]) (by omega) (by decide) (fun g2 c2 e3 e4 => ?_); refine Qv (XK (Xv J J J J J zRat2 (Nat.le_of_ble_eq_true J) (Qv ?_)) Qo); refine X3 (QW J J J fG4 J (Qv ?_)); refine XK (Xv J J J J J zInts (Nat.le_of_ble_eq_true J) (Qv ?_)) Qo; exact Xo (XW cont (g1, c1, g2, c2) ⟨e1, e2, e3, e4⟩ (by exact QJ J ⟨rfl, rfl, rfl, rfl, rfl, rfl, trivial⟩))
          exact Qo
        exact Qo
      refine Xi ?_ ?_
      · refine XZ J J sInts J J J (Qv (Xi ?_ ?_))
        · refine XZ J J sRat2 J J J (Qv (XK ?_ ?_))
          · refine Xf 83 8 J J (Qt i (rowsR (zs ++ [line])) J J J J sRat2 (by rw [rowsR_len, hzl]) J (by omega) (by omega) (by simp [rowsR]) J ?_); refine X9 86 8 (i + 1) J J (by rw [rowsR_len, List.length_append, hzl]; rfl) (by omega) (by decide) (fun g1 c1 e1 e2 => ?_); refine Qv (X3 (QW J J J fG2 J (Qv ?_)))
            refine XK ?_ Qo
            refine Xf 88 9 J J (Qt i (ints (rng n (i + 1))) J J J J sInts (by simp [X8]) J (by omega) (by omega) (by rw [Yz, Yj, Int.natCast_add]; rfl) J ?_); refine X9 93 9 (i + 1) J J (by simp [X8]) (by omega) (by decide) (fun g2 c2 e3 e4 => ?_); refine Qv (XK (Xv J J J J J zRat2 (Nat.le_of_ble_eq_true J) (Qv ?_)) Qo); refine X3 (QW J J J fG4 J (Qv ?_)); refine XK (Xv J J J J J zInts (Nat.le_of_ble_eq_true J) (Qv ?_)) Qo; exact Xo (XW cont (g1, c1, g2, c2) ⟨e1, e2, e3, e4⟩ (by exact QJ J ⟨rfl, rfl, rfl, rfl, rfl, rfl, trivial⟩))
          exact Qo
        exact Qo
      exact Qo
    refine Xi ?_ ?_
    · refine XZ J J sInts J J J (Qv (Xi ?_ ?_))
      · refine XZ J J sRat2 J J J (Qv (XK ?_ ?_))
        · refine Xf 83 8 J J (Qt i (rowsR (zs ++ [line])) J J J J sRat2 (by rw [rowsR_len, hzl]) J (by omega) (by omega) (by simp [rowsR]) J ?_); refine X9 86 8 (i + 1) J J (by rw [rowsR_len, List.length_append, hzl]; rfl) (by omega) (by decide) (fun g1 c1 e1 e2 => ?_); refine Qv (Xi ?_ ?_)
          · refine QK J J J J J lInts J (Qv (X3 (QW J J J fG2 J (Qv ?_))))
            refine XK ?_ Qo
            refine Xf 88 9 J J (Qt i (ints (rng n (i + 1))) J J J J sInts (by simp [X8]) J (by omega) (by omega) (by rw [Yz, Yj, Int.natCast_add]; rfl) J ?_); refine X9 93 9 (i + 1) J J (by simp [X8]) (by omega) (by decide) (fun g2 c2 e3 e4 => ?_); refine Qv (XK (Xv J J J J J zRat2 (Nat.le_of_ble_eq_true J) (Qv ?_)) Qo); refine X3 (QW J J J fG4 J (Qv ?_)); refine XK (Xv J J J J J zInts (Nat.le_of_ble_eq_true J) (Qv ?_)) Qo; exact Xo (XW cont (g1, c1, g2, c2) ⟨e1, e2, e3, e4⟩ (by exact QJ J ⟨rfl, rfl, rfl, rfl, rfl, rfl, trivial⟩))
          exact Qo
        refine Xi ?_ ?_
        · refine QK J J J J J lInts J (Qv (XK ?_ ?_))
          · refine Xf 83 8 J J (Qt i (rowsR (zs ++ [line])) J J J J sRat2 (by rw [rowsR_len, hzl]) J (by omega) (by omega) (by simp [rowsR]) J ?_); refine X9 86 8 (i + 1) J J (by rw [rowsR_len, List.length_append, hzl]; rfl) (by omega) (by decide) (fun g1 c1 e1 e2 => ?_); refine Qv (X3 (QW J J J fG2 J (Qv ?_)))
            refine XK ?_ Qo
            refine Xf 88 9 J J (Qt i (ints (rng n (i + 1))) J J J J sInts (by simp [X8]) J (by omega) (by omega) (by rw [Yz, Yj, Int.natCast_add]; rfl) J ?_); refine X9 93 9 (i + 1) J J (by simp [X8]) (by omega) (by decide) (fun g2 c2 e3 e4 => ?_); refine Qv (XK (Xv J J J J J zRat2 (Nat.le_of_ble_eq_true J) (Qv ?_)) Qo); refine X3 (QW J J J fG4 J (Qv ?_)); refine XK (Xv J J J J J zInts (Nat.le_of_ble_eq_true J) (Qv ?_)) Qo; exact Xo (XW cont (g1, c1, g2, c2) ⟨e1, e2, e3, e4⟩ (by exact QJ J ⟨rfl, rfl, rfl, rfl, rfl, rfl, trivial⟩))
          exact Qo
        exact Qo
      refine Xi ?_ ?_
      · refine QK J J J J J lInts J (Qv (Xi ?_ ?_))
        · refine XZ J J sRat2 J J J (Qv (XK ?_ ?_))
          · refine Xf 83 8 J J (Qt i (rowsR (zs ++ [line])) J J J J sRat2 (by rw [rowsR_len, hzl]) J (by omega) (by omega) (by simp [rowsR]) J ?_); refine X9 86 8 (i + 1) J J (by rw [rowsR_len, List.length_append, hzl]; rfl) (by omega) (by decide) (fun g1 c1 e1 e2 => ?_); refine Qv (X3 (QW J J J fG2 J (Qv ?_)))
            refine XK ?_ Qo
            refine Xf 88 9 J J (Qt i (ints (rng n (i + 1))) J J J J sInts (by simp [X8]) J (by omega) (by omega) (by rw [Yz, Yj, Int.natCast_add]; rfl) J ?_); refine X9 93 9 (i + 1) J J (by simp [X8]) (by omega) (by decide) (fun g2 c2 e3 e4 => ?_); refine Qv (XK (Xv J J J J J zRat2 (Nat.le_of_ble_eq_true J) (Qv ?_)) Qo); refine X3 (QW J J J fG4 J (Qv ?_)); refine XK (Xv J J J J J zInts (Nat.le_of_ble_eq_true J) (Qv ?_)) Qo; exact Xo (XW cont (g1, c1, g2, c2) ⟨e1, e2, e3, e4⟩ (by exact QJ J ⟨rfl, rfl, rfl, rfl, rfl, rfl, trivial⟩))
          exact Qo
        exact Qo
      exact Qo
    exact Qo
  · have him : i = rs.length := by omega
    subst him
    have key : ∀ v, IsH rs.length v → ∃ (a : Option Addr) (l c : Nat), v = .slice a l c := fun v hv => by
      rcases hv with ⟨_, rfl⟩ | ⟨_, gb, c, _, _, rfl⟩
      · exact ⟨_, _, _, rfl⟩
      · exact ⟨_, _, _, rfl⟩
    obtain ⟨a1, l1, c1, rfl⟩ := key hR hHR; obtain ⟨a2, l2, c2, rfl⟩ := key hB hHB; refine Qm (Qz (Qy (Qx fun K hK => ?_))); refine Qd (n := 5) J J J J J lTab J (Q8 5 J J J J J szTab5 J J (Qv (hK _ _ (Qz (QU ?_))))); clear hK K; refine Fin.retMS (.slice a1 l1 c1, .slice a2 l2 c2) [_] rfl (Qp (n := 5) J J lTab J QQ) J (fun j e he => ?_) (fun i hi => absurd hi (by simp)) ⟨hHR, hHB⟩; by_cases h8 : 8 = j
    · subst h8; exact he
    · by_cases h9 : 9 = j
      · subst h9; exact he
      · rw [Xx _ _ h8, Xx _ _ h9] at he; cases he
end Go.Proofs.YtdhmbgogmoaofaaGreat
namespace Go.Proofs.YtdhmbgogmoaofaaGreat
open Go.Own Go.Limbs Go.Det
section
variable {n : Nat} {rs : List Rw} {c : List Int} {bs : List Nat}
def vcA (n : Nat) (rs : List Rw) (c : List Int) (v : Nat) : Vec := if v = n + rs.length + 1 then rhsQ rs else colA n rs c v
theorem vcA_lo {v : Nat} (h : v ≤ n + rs.length) : vcA n rs c v = colA n rs c v := if_neg (by omega)
theorem vcA_hi : vcA n rs c (n + rs.length + 1) = rhsQ rs := if_pos rfl
theorem vcA_V (v : Nat) : Vok (rs.length + 2) (vcA n rs c v) := by
  unfold vcA; split
  · exact Yo
  · exact Y5 v
theorem vcA_or (v : Nat) : vcA n rs c v = rhsQ rs ∨ ∃ u, vcA n rs c v = colA n rs c u := by
  unfold vcA; split
  · exact .inl J
  · exact .inr ⟨v, rfl⟩
def rowQ (n : Nat) (rs : List Rw) (c : List Int) (bs : List Nat) (i : Nat) : List Rat := (List.range (n + rs.length + 2)).map fun v => rq (colA n rs c) bs i (vcA n rs c v)
theorem Zi (i : Nat) : (rowQ n rs c bs i).length = n + rs.length + 2 := by simp [rowQ]
theorem ZX {i v : Nat} (h : v < n + rs.length + 2) : (rowQ n rs c bs i).getD v 0 = rq (colA n rs c) bs i (vcA n rs c v) := by
  unfold rowQ; simp [List.getD_eq_getElem?_getD, List.getElem?_map, h]
def tst (n : Nat) (rs : List Rw) (c : List Int) (g : Nat) (bs : List Nat) : TSt := ⟨(List.range rs.length).map (rowQ n rs c bs), rowQ n rs c bs g, (List.range rs.length).map fun i => ((bs.getD i 0 : Nat) : Int)⟩
theorem Z7 (g : Nat) : (tst n rs c g bs).rows.length = rs.length := by simp [tst]
theorem Zd {g i : Nat} (h : i < rs.length) : (tst n rs c g bs).rows.getD i [] = rowQ n rs c bs i := by
  unfold tst; simp [List.getD_eq_getElem?_getD, List.getElem?_map, h]
theorem tst_at {g i v : Nat} (h : i < rs.length) (hv : v < n + rs.length + 2) : (tst n rs c g bs).at i v = rq (colA n rs c) bs i (vcA n rs c v) := by
  unfold TSt.at; rw [Zd h, ZX hv]
theorem tst_bas {g i : Nat} (h : i < rs.length) : (tst n rs c g bs).bas.getD i 0 = ((bs.getD i 0 : Nat) : Int) := by
  unfold tst; simp [List.getD_eq_getElem?_getD, List.getElem?_map, h]
theorem tst_bas_set {g r s : Nat} (hl : bs.length = rs.length + 2) (hr : r < rs.length) : (tst n rs c g (bs.set r s)).bas = (tst n rs c g bs).bas.set r (s : Int) := by
  unfold tst
  apply List.ext_getElem?
  intro q; rw [List.getElem?_set]; by_cases hq : r = q
  · subst hq; simp [hr, List.getD_eq_getElem?_getD, List.getElem?_set, show r < bs.length by omega]
  · rw [if_neg hq]; rcases Nat.lt_or_ge q rs.length with h1 | h1
    · simp [h1, hq, List.getD_eq_getElem?_getD, List.getElem?_set]
    · rw [List.getElem?_eq_none (by simpa using h1), List.getElem?_eq_none (by simpa using h1)]
theorem rq_Q9 (hL : LpOk n rs c) (hm : rs.length ≤ 6) (hl : bs.length = rs.length + 2) (hne : dD (colA n rs c) bs ≠ 0) {i : Nat} (hi : i < rs.length + 2) (v : Nat) : Q9 (rq (colA n rs c) bs i (vcA n rs c v)) := by
  have h1 := tt_Kt hL (i := i) hl hi (vcA_or (c := c) v); have h2 := tt_Kt hL (i := rs.length) hl (by omega) (.inr ⟨bs.getD rs.length 0, rfl⟩); rw [tt_own hl (by omega)] at h2; have := F9.shq hm (den_pos hne) h2 h1; rw [rq_shq hne]; exact ⟨Qf this.num, Qf this.den⟩
theorem rowQ_Q9 (hL : LpOk n rs c) (hm : rs.length ≤ 6) (hl : bs.length = rs.length + 2) (hne : dD (colA n rs c) bs ≠ 0) {i : Nat} (hi : i < rs.length + 2) : ∀ x ∈ rowQ n rs c bs i, Q9 x := fun x hx => by
  obtain ⟨v, _, rfl⟩ := List.mem_map.1 hx
  exact rq_Q9 hL hm hl hne hi v
theorem tst_tok (hL : LpOk n rs c) (hm : rs.length ≤ 6) (hl : bs.length = rs.length + 2) (hne : dD (colA n rs c) bs ≠ 0) {g : Nat} (hg : g < rs.length + 2) : Tok (n + rs.length + 2) (tst n rs c g bs) := by
  have hn := hL.nn; refine ⟨by rw [Z7]; omega, by omega, fun k hk => ?_, Zi g, by unfold tst; simp, fun k hk => ?_, rowQ_Q9 hL hm hl hne hg⟩
  · rw [Z7] at hk; rw [Zd hk, Zi]
  · rw [Z7] at hk; rw [Zd hk]; exact rowQ_Q9 hL hm hl hne (by omega)
theorem tst_piv (hL : LpOk n rs c) (hm : rs.length ≤ 6) (hB : Bas (colA n rs c) (Vok (rs.length + 2)) (rs.length + 2) bs) {g r s : Nat} (hgm : rs.length ≤ g) (hg : g < rs.length + 2) (hr : r < rs.length) (hs : s ≤ n + rs.length) (hp : rq (colA n rs c) bs r (colA n rs c s) ≠ 0) :
    Piv (n + rs.length + 2) (tst n rs c g bs).rows (tst n rs c g (bs.set r s)).rows (tst n rs c g bs).goal (tst n rs c g (bs.set r s)).goal r s := by
  have hn := hL.nn; have hl := hB.len; have hB' := hB.piv (r := r) (s := s) (by omega) (Y5 s) (rq_ne hp); have hl' := hB'.len; have es : vcA n rs c s = colA n rs c s := vcA_lo hs; refine ⟨by rw [Z7]; exact hr, by omega, by rw [Z7]; omega, by omega, by rw [Z7, Z7], fun k hk => ?_, fun k hk => ?_, Zi g, Zi g, fun k hk => ?_, ?_, rowQ_Q9 hL hm hl hB.ne hg, ?_, fun v hv => ?_, fun k hk hkr v hv => ?_, fun v hv => ?_⟩
  · rw [Z7] at hk; rw [Zd hk, Zi]
  · rw [Z7] at hk; rw [Zd hk, Zi]
  · rw [Z7] at hk; rw [Zd hk]; exact rowQ_Q9 hL hm hl hB.ne (by omega)
  · rw [Zd hr]; exact rowQ_Q9 hL hm hl' hB'.ne (by omega)
  · rw [Zd hr, ZX (by omega), es]; exact hp
  · rw [Zd hr, Zd hr, ZX hv, ZX hv, ZX (by omega), es]; exact rq_piv_r hB.ne hp _
  · rw [Z7] at hk; rw [Zd hk, Zd hr, Zd hk, ZX hv, ZX hv, ZX (by omega), ZX hv, es, rq_piv_r hB.ne hp]; exact hB.rq_piv_i (by omega) (by omega) hkr (vcA_V v) hp
  · show (rowQ n rs c (bs.set r s) g).getD v 0 = (rowQ n rs c bs g).getD v 0 - (rowQ n rs c bs g).getD s 0 * _; rw [Zd hr, ZX hv, ZX hv, ZX (by omega), ZX hv, es, rq_piv_r hB.ne hp]; exact hB.rq_piv_i (by omega) (by omega) (by omega) (vcA_V v) hp
theorem rq_sign (hne : dD (colA n rs c) bs ≠ 0) (i : Nat) (x : Vec) : ((rq (colA n rs c) bs i x).num < 0 ↔ tt (colA n rs c) bs i x < 0) ∧ (0 < (rq (colA n rs c) bs i x).num ↔ 0 < tt (colA n rs c) bs i x) ∧ (rq (colA n rs c) bs i x = 0 ↔ tt (colA n rs c) bs i x = 0) := by
  have hs := shq_num_sign (a := tt (colA n rs c) bs i x) (den_pos hne); rw [← rq_shq hne] at hs; obtain ⟨h1, h2, h3⟩ := hs; have h4 : rq (colA n rs c) bs i x = 0 ↔ (rq (colA n rs c) bs i x).num = 0 := Rat.num_eq_zero.symm; rw [h4]; generalize (rq (colA n rs c) bs i x).num = z at *; rcases Int.lt_trichotomy (tt (colA n rs c) bs i x) 0 with h | h | h
  · have := h2 h; exact ⟨⟨fun _ => h, fun _ => this⟩, ⟨fun _ => by omega, fun _ => by omega⟩, ⟨fun _ => by omega, fun _ => by omega⟩⟩
  · have hz : z = 0 := by
      have e := h4
      have : rq (colA n rs c) bs i x = 0 := by
        rw [rq_shq hne, h, shq_zero]
      exact h4.1 this
    exact ⟨⟨fun _ => by omega, fun _ => by omega⟩, ⟨fun _ => by omega, fun _ => by omega⟩, ⟨fun _ => h, fun _ => hz⟩⟩
  · have := h3 h; exact ⟨⟨fun _ => by omega, fun _ => by omega⟩, ⟨fun _ => h, fun _ => this⟩, ⟨fun _ => by omega, fun _ => by omega⟩⟩
end
theorem ite_iff {α : Type} {P Q : Prop} [Decidable P] [Decidable Q] {x y : α} (h : P ↔ Q) : (if P then x else y) = if Q then x else y := by
  by_cases hq : Q
  · rw [if_pos (h.2 hq), if_pos hq]
  · rw [if_neg (fun k => hq (h.1 k)), if_neg hq]
theorem cmpQ_zero {p q : Rat} : cmpQ p q = 0 ↔ ¬ p < q ∧ ¬ q < p := by
  have h1 := cmpQ_neg (p := p) (q := q); have h2 := cmpQ_le_iff (p := p) (q := q); rw [← Rat.not_lt] at h2; rw [← h1, ← h2]; omega
theorem div_cmp {a b p q : Int} (hp : 0 < p) (hq : 0 < q) : ((a : Rat) / (p : Rat) < (b : Rat) / (q : Rat)) ↔ a * q < b * p := by
  have hp' : (0 : Rat) < (p : Rat) := Rat.intCast_pos.2 hp; have hq' : (0 : Rat) < (q : Rat) := Rat.intCast_pos.2 hq
  have e : (b : Rat) / (q : Rat) * (p : Rat) = ((b * p : Int) : Rat) / (q : Rat) := by
    rw [Rat.intCast_mul]; have := Rat.ne_of_gt hq'; grind
  rw [Rat.div_lt_iff hp', e, Rat.lt_div_iff hq', ← Rat.intCast_mul, Rat.intCast_lt_intCast]
section
variable {n : Nat} {rs : List Rw} {c : List Int} {bs : List Nat} {W : Nat} {T : Tv}
theorem rq_div {A : Nat → Vec} (hne : dD A bs ≠ 0) {i : Nat} {x y : Vec} (hy : tt A bs i y ≠ 0) : rq A bs i x / rq A bs i y = ((tt A bs i x : Int) : Rat) / ((tt A bs i y : Int) : Rat) := by
  unfold tt at hy ⊢; unfold rq; rw [Rat.intCast_mul, Rat.intCast_mul]; have h1 := ratc_ne hne; have h2 : (((dD A bs).sign : Int) : Rat) ≠ 0 := ratc_ne (fun e => by have := sgn_sq hne; rw [e] at this; simp at this); have h3 : ((dT A bs i y : Int) : Rat) ≠ 0 := ratc_ne (fun e => hy (by rw [e]; exact Int.mul_zero _)); generalize ((dD A bs : Int) : Rat) = d at *; generalize (((dD A bs).sign : Int) : Rat) = s at *; generalize ((dT A bs i x : Int) : Rat) = u at *; generalize ((dT A bs i y : Int) : Rat) = v at *
  grind
theorem Ph.lev_eq (h : Ph n rs c W T bs) (hW : W ≤ n + rs.length + 1) {e : Nat} (he : e < T.col.length) (g : Nat) : ∀ i, i ≤ rs.length →
    levR (tst n rs c g bs) (T.col.getD e 0).toNat (n + rs.length + 1) i = levS T e i
  | 0, _ => rfl
  | i + 1, hi => by
    have ih := h.lev_eq hW he g i (by omega)
    have hV := h.good.view
    have hne := h.bas.ne
    have hrm := hV.rm
    have hcW := h.good.cov.col e he
    have hce := hV.colv e
    obtain ⟨s, hs⟩ : ∃ s : Nat, T.col.getD e 0 = s := ⟨(T.col.getD e 0).toNat, by omega⟩
    rw [hs, Int.toNat_natCast] at ih ⊢
    have bd := levS_bd T e i
    have hat : ∀ k, k < rs.length → T.at k e = tt (colA n rs c) bs k (colA n rs c s) := fun k hk => by
      rw [hV.num k (by omega) e he, hs, Int.toNat_natCast]
    have hq : ∀ k, k < rs.length → T.at k T.col.length = tt (colA n rs c) bs k (rhsQ rs) := fun k hk => hV.rhs k (by omega)
    have hX : ∀ k, k < rs.length → (tst n rs c g bs).at k s = rq (colA n rs c) bs k (colA n rs c s) := fun k hk => by
      rw [tst_at hk (by omega), vcA_lo (by omega)]
    have hY : ∀ k, k < rs.length → (tst n rs c g bs).at k (n + rs.length + 1) = rq (colA n rs c) bs k (rhsQ rs) := fun k hk => by
      rw [tst_at hk (by omega), vcA_hi]
    have hpos : ∀ k, k < rs.length → (0 < ((tst n rs c g bs).at k s).num ↔ 0 < T.at k e) := fun k hk => by
      rw [hX k hk, hat k hk]; exact (rq_sign hne k _).2.1
    have hrat : ∀ k, k < rs.length → 0 < T.at k e → ratR (tst n rs c g bs) s (n + rs.length + 1) k = ((T.at k T.col.length : Int) : Rat) / ((T.at k e : Int) : Rat) := fun k hk hp => by
      unfold ratR
      rw [hX k hk, hY k hk, hat k hk, hq k hk]
      exact rq_div hne (by rw [← hat k hk]; omega)
    have hb : ∀ k, k < rs.length → (tst n rs c g bs).bas.getD k 0 = T.bas.getD k 0 := fun k hk => by rw [tst_bas hk, hV.basv k hk]
    simp only [levR, levS]
    rw [ih]
    by_cases h1 : T.at i e ≤ 0
    · rw [if_pos (by rw [hpos i (by omega)]; omega), if_pos h1]
    · rw [if_neg (by rw [Classical.not_not, hpos i (by omega)]; omega), if_neg h1]
      by_cases h2 : levS T e i < 0
      · rw [if_pos h2, if_pos h2]
      · rw [if_neg h2, if_neg h2]
        have hl := levS_hit (show 0 ≤ levS T e i by omega)
        obtain ⟨l, hll⟩ : ∃ l : Nat, levS T e i = l := ⟨(levS T e i).toNat, by omega⟩
        rw [hll] at hl bd
        have hll2 : (levS T e i).toNat = l := by omega
        simp only [Int.toNat_natCast] at hl
        have hp := hl.1
        have key : (cmpQ (ratR (tst n rs c g bs) s (n + rs.length + 1) i) (ratR (tst n rs c g bs) s (n + rs.length + 1) (levS T e i).toNat) < 0 ∨ (cmpQ (ratR (tst n rs c g bs) s (n + rs.length + 1) i) (ratR (tst n rs c g bs) s (n + rs.length + 1) (levS T e i).toNat) = 0 ∧ (tst n rs c g bs).bas.getD i 0 < (tst n rs c g bs).bas.getD (levS T e i).toNat 0)) ↔
            (T.at i T.col.length * T.at (levS T e i).toNat e + -(T.at (levS T e i).toNat T.col.length * T.at i e) < 0 ∨ (T.at i T.col.length * T.at (levS T e i).toNat e + -(T.at (levS T e i).toNat T.col.length * T.at i e) = 0 ∧ T.bas.getD i 0 < T.bas.getD (levS T e i).toNat 0)) := by
          rw [hll2, hrat i (by omega) (by omega), hrat l (by omega) hp, hb i (by omega), hb l (by omega)]; have c1 := div_cmp (a := T.at i T.col.length) (b := T.at l T.col.length) (p := T.at i e) (q := T.at l e) (by omega) hp; have c2 := div_cmp (a := T.at l T.col.length) (b := T.at i T.col.length) (p := T.at l e) (q := T.at i e) hp (by omega); rw [cmpQ_neg, cmpQ_zero, c1, c2]; generalize T.at i T.col.length * T.at l e = x; generalize T.at l T.col.length * T.at i e = y
          have e1 : (x + -y < 0) ↔ x < y := by omega
          have e2 : (x + -y = 0) ↔ (¬ x < y ∧ ¬ y < x) := by omega
          rw [e1, e2]
        exact ite_iff key
theorem goal_at {g v : Nat} (hv : v ≤ n + rs.length) : (tst n rs c g bs).goal.getD v 0 = rq (colA n rs c) bs g (colA n rs c v) := by
  show (rowQ n rs c bs g).getD v 0 = _; rw [ZX (by omega), vcA_lo hv]
theorem Ph.ent (h : Ph n rs c W T bs) (hW : W ≤ n + rs.length + 1) {g : Nat} (hg : rs.length ≤ g) (hgT : g < T.rows.length) (he : 0 ≤ en g T) : Ent1 (tst n rs c g bs) W (T.col.getD (en g T).toNat 0).toNat := by
  have b1 := en_bd g T; have eh := entS_hit (show 0 ≤ entS (T.rows.getD g []) T.col T.col.length from he); obtain ⟨e, hee⟩ : ∃ e : Nat, en g T = e := ⟨(en g T).toNat, by omega⟩; rw [show entS (T.rows.getD g []) T.col T.col.length = en g T from rfl, hee] at eh; rw [hee]; simp only [Int.toNat_natCast] at eh ⊢; have hV := h.good.view
  have heT : e < T.col.length := by omega
  have hce := hV.colv e; have hcW := h.good.cov.col e heT; have hrM := hV.rM; refine ⟨by omega, ?_, fun v hv => ?_⟩
  · rw [goal_at (by omega), (rq_sign h.bas.ne g _).1, ← hV.num g hgT e heT]; exact eh.1
  · rw [goal_at (by omega), (rq_sign h.bas.ne g _).1]; rcases h.good.cov.all v (by omega) with ⟨i, hi, hb⟩ | ⟨j, hj, hb⟩
    · rw [← hb, Zg hV.bas.len (by omega) (by omega) (by omega)]; decide
    · have h1 := hV.num g hgT j hj; rw [hb, Int.toNat_natCast] at h1; rw [← h1]; intro h2; have := eh.2 j hj h2; omega
theorem Ph.ent_none (h : Ph n rs c W T bs) (hW : W ≤ n + rs.length + 1) {g : Nat} (hg : rs.length ≤ g) (hgT : g < T.rows.length) (he : en g T < 0) : ∀ j, j < W → ¬ ((tst n rs c g bs).goal.getD j 0).num < 0 := fun v hv => by
  have hV := h.good.view
  have hrM := hV.rM
  rw [goal_at (by omega), (rq_sign h.bas.ne g _).1]
  rcases h.good.cov.all v hv with ⟨i, hi, hb⟩ | ⟨j, hj, hb⟩
  · rw [← hb, Zg hV.bas.len (by omega) (by omega) (by omega)]; decide
  · have h1 := hV.num g hgT j hj
    rw [hb, Int.toNat_natCast] at h1
    rw [← h1]
    have := entS_none he j hj
    exact Int.not_lt.2 this
theorem Ph.nx (h : Ph n rs c W T bs) (hL : LpOk n rs c) {g : Nat} (hg : rs.length ≤ g) (hgT : g < T.rows.length) (hn : ¬ stop g T) : Ph n rs c W (nx g (T, bs)).1 (nx g (T, bs)).2 := by
  have hlen := h.bas.len; have b2 := lv_bd g T; have hV := h.good.view; rw [hV.basl] at b2
  have hl0 : 0 ≤ lv g T := by unfold stop at hn; omega
  refine ⟨h.good.pvt (lp_sys hL) hg hgT hn, ?_, ?_⟩
  · show (bs.set (lv g T).toNat _).getD _ 0 = _; rw [getD_set' (by omega), if_neg (by omega)]; exact h.z
  · show (bs.set (lv g T).toNat _).getD _ 0 = _; rw [getD_set' (by omega), if_neg (by omega)]; exact h.w
def sOf (g : Nat) (T : Tv) : Int := if en g T < 0 then -1 else T.col.getD (en g T).toNat 0
theorem imp_it (hL : LpOk n rs c) (hm : rs.length ≤ 6) (hW : W ≤ n + rs.length + 1) {g : Nat} (hg : rs.length ≤ g) (hgM : g < rs.length + 2) : ∀ (k : Nat) (x : Tv × List Nat), Ph n rs c W x.1 x.2 → g < x.1.rows.length → (∀ j, j < k → ¬ stop g (it g j x).1) → stop g (it g k x).1 →
    ImpRun (n + rs.length + 2) W (n + rs.length + 1) (tst n rs c g (it g k x).2) (sOf g (it g k x).1) k (tst n rs c g x.2)
  | 0, (T, bs), h, hgT, _, hs => by
    have h : Ph n rs c W T bs := h
    have hgT : g < T.rows.length := hgT
    refine ⟨tst_tok hL hm h.bas.len h.bas.ne hgM, rfl, ?_⟩
    show (sOf g T = -1 ∧ _) ∨ _
    have hs : stop g T := hs
    by_cases he : en g T < 0
    · exact .inl ⟨if_pos he, h.ent_none hW hg hgT he⟩
    · have hl : lv g T < 0 := by unfold stop at hs; omega
      have b1 := en_bd g T
      have hce := h.good.view.colv (en g T).toNat
      have hcW := h.good.cov.col (en g T).toNat (by omega)
      refine .inr ⟨(T.col.getD (en g T).toNat 0).toNat, ?_, h.ent hW hg hgT (by omega), ?_⟩
      · show sOf g T = _
        rw [show sOf g T = _ from if_neg he]; omega
      · rw [Z7, h.lev_eq hW (by omega) g _ (Nat.le_refl _)]
        have : levS T (en g T).toNat T.bas.length < 0 := hl
        rw [h.good.view.basl] at this
        exact this
  | k + 1, (T, bs), h, hgT, hn, hs => by
    have h : Ph n rs c W T bs := h
    have hgT : g < T.rows.length := hgT
    have h0 : ¬ stop g T := hn 0 (by omega)
    have he : 0 ≤ en g T := by unfold stop at h0; omega
    have hl : 0 ≤ lv g T := by unfold stop at h0; omega
    have b1 := en_bd g T
    have b2 := lv_bd g T
    have hV := h.good.view
    have hce := hV.colv (en g T).toNat
    have hcW := h.good.cov.col (en g T).toNat (by omega)
    have el : levR (tst n rs c g bs) (T.col.getD (en g T).toNat 0).toNat (n + rs.length + 1) (tst n rs c g bs).rows.length = lv g T := by
      rw [Z7, h.lev_eq hW (by omega) g _ (Nat.le_refl _), ← hV.basl]; rfl
    rw [hV.basl] at b2
    have hlr : (lv g T).toNat < rs.length := by omega
    have hsn : (T.col.getD (en g T).toNat 0).toNat ≤ n + rs.length := by omega
    have hp : 0 < tt (colA n rs c) bs (lv g T).toNat (colA n rs c (T.col.getD (en g T).toNat 0).toNat) := (h.good.step (lp_sys hL) hg hgT h0).lev; refine ⟨tst_tok hL hm h.bas.len h.bas.ne hgM, (T.col.getD (en g T).toNat 0).toNat, tst n rs c g (nx g (T, bs)).2, h.ent hW hg hgT he, by rw [el]; exact hl, ?_, ?_, imp_it hL hm hW hg hgM k (nx g (T, bs)) (h.nx hL hg hgT h0) (by rw [nx_rows]; exact hgT) (fun j hj => hn (j + 1) (by omega)) hs⟩
    · rw [el]
      refine tst_piv hL hm h.bas hg hgM hlr hsn fun e => ?_
      have := (rq_sign h.bas.ne (lv g T).toNat (colA n rs c (T.col.getD (en g T).toNat 0).toNat)).2.2.1 e; omega
    · rw [el]; exact tst_bas_set h.bas.len hlr
def EndR (n : Nat) (rs : List Rw) (c : List Int) (g W : Nat) (bs : List Nat) (s : Int) : Prop :=
  (s = -1 ∧ ∀ v, v < W → 0 ≤ tt (colA n rs c) bs g (colA n rs c v)) ∨ ∃ e : Nat, s = e ∧ e < W ∧ (∀ k, k < rs.length → bs.getD k 0 ≠ e) ∧ tt (colA n rs c) bs g (colA n rs c e) < 0 ∧ ∀ i, i < rs.length → tt (colA n rs c) bs i (colA n rs c e) ≤ 0
theorem Ph.imp (h : Ph n rs c W T bs) (hL : LpOk n rs c) (hm : rs.length ≤ 6) (hW1 : n + rs.length ≤ W) (hW : W ≤ n + rs.length + 1) {g : Nat} (hg : rs.length ≤ g) (hgM : g < rs.length + 2) (hgT : g < T.rows.length) :
    ∃ k T' bs' s, ImpRun (n + rs.length + 2) W (n + rs.length + 1) (tst n rs c g bs') s k (tst n rs c g bs) ∧ Ph n rs c W T' bs' ∧ EndR n rs c g W bs' s ∧ T'.rows.length = T.rows.length ∧ T'.col.length = T.col.length := by
  have hS := lp_sys hL; have hN := h.small hW1; have hG := h.good
  have hex : ∃ k, stop g (it g k (T, bs)).1 := by
    refine Classical.byContradiction fun hno => ?_
    have hn : ∀ k, ¬ stop g (it g k (T, bs)).1 := fun k hk => hno ⟨k, hk⟩
    have hI := fun k => it_ok (W := W) hS hg k (T, bs) hG hgT (fun j _ => hn j)
    have R : Run (colA n rs c) (Vok (rs.length + 2)) (rs.length + 2) rs.length g (rhsQ rs) (fun v => v < W) (W + (rs.length + 2) + 2) (fun k => (it g k (T, bs)).2) (fun k => (lv g (it g k (T, bs)).1).toNat) (fun k => ((it g k (T, bs)).1.col.getD (en g (it g k (T, bs)).1).toNat 0).toNat) :=
      ⟨hG.view.bas, hG.feas, hS.hq, hS.hA, hg, by omega, fun k => (hI k).1.step hS hg (by rw [(hI k).2.1]; exact hgT) (hn k), fun k => by show (it g (k + 1) (T, bs)).2 = _; rw [it_succ]; rfl, hN, fun v hv => by omega⟩
    exact R.no
  obtain ⟨k, hk, hkl⟩ := least hex; obtain ⟨a1, a2, a3⟩ := it_ok (W := W) hS hg k (T, bs) hG hgT hkl
  have hcl : (it g k (T, bs)).1.col.length = T.col.length := by
    obtain ⟨s, hs1, hs2⟩ := a1.endp hg (by rw [a2]; exact hgT) hk; exact (it_run hS hg k (T, bs) hG hgT hkl hs2).lens.2.2
  have hP : Ph n rs c W (it g k (T, bs)).1 (it g k (T, bs)).2 := ⟨a1, by rw [a3 _ (Nat.le_refl _)]; exact h.z, by rw [a3 _ (by omega)]; exact h.w⟩; refine ⟨k, _, _, _, imp_it hL hm hW hg hgM k (T, bs) h hgT hkl hk, hP, ?_, a2, hcl⟩; obtain ⟨s, hE, hs⟩ := a1.endp hg (by rw [a2]; exact hgT) hk; rcases hs with ⟨he, hs⟩ | ⟨he, hl, hs⟩
  · refine .inl ⟨if_pos he, ?_⟩; rcases hE with ⟨_, h1⟩ | ⟨e, h2, _⟩
    · exact h1
    · omega
  · rcases hE with ⟨h2, _⟩ | ⟨e, h2, h3, h4, h5⟩
    · omega
    · have hce := a1.view.colv e; have hcW := a1.cov.col e h3; rw [show (it g k (T, bs)).2 = (it g k (T, bs)).2 from rfl] at h4
      have he2 : (en g (it g k (T, bs)).1).toNat = e := by omega
      refine .inr ⟨((it g k (T, bs)).1.col.getD e 0).toNat, ?_, by omega, fun i hi hb => ?_, h4, h5⟩
      · rw [show sOf g (it g k (T, bs)).1 = _ from if_neg (by omega), he2]; omega
      · exact a1.cov.dis e i h3 hi (by omega)
end
theorem shq_int {b D : Int} (hD : 0 < D) : shq (D * b) D = (b : Rat) := Rat.le_antisymm (shq_le_int hD (Int.le_refl _)) (int_le_shq hD (Int.le_refl _))
section
variable {n : Nat} {rs : List Rw} {c : List Int} {bs : List Nat} {W : Nat} {T : Tv}
theorem rq_bs0 {i : Nat} (hi : i < rs.length + 2) {x : Vec} (hx : Vok (rs.length + 2) x) : rq (colA n rs c) (bs0 n rs.length) i x = ((x i : Int) : Rat) := by
  have h1 := bs0_tt (n := n) (c := c) hi hx; unfold tt at h1; rw [bs0_bas.2, show (1 : Int).sign = 1 from rfl, Int.one_mul] at h1; unfold rq; rw [bs0_bas.2, h1]; show _ / (1 : Rat) = _
  grind
theorem stRow_at (n m i : Nat) (r : Rw) {v : Nat} (hv : v < n + m + 2) : (stRow n m i r).getD v 0 = if n + m + 1 = v then ((r.b : Int) : Rat) else if n + m = v then -1 else if n + i = v then 1 else if v < r.cs.length then ((r.cs.getD v 0 : Int) : Rat) else 0 := by
  unfold stRow cfR; simp only [List.getD_eq_getElem?_getD, List.getElem?_set, List.length_set, List.length_map, List.length_range, List.getElem?_map, List.getElem?_range hv, Option.map_some]; split
  · rw [if_pos (by omega)]; rfl
  · split
    · rw [if_pos (by omega)]; rfl
    · split
      · rw [if_pos (by omega)]; rfl
      · rfl
theorem stRow_len (n m i : Nat) (r : Rw) : (stRow n m i r).length = n + m + 2 := by simp [stRow, cfR]
theorem ext_getD {α : Type} {a b : List α} {z : α} (hl : a.length = b.length) (h : ∀ i, i < a.length → a.getD i z = b.getD i z) : a = b := by
  apply List.ext_getElem hl
  intro i h1 h2; have := h i h1
  simpa [List.getD_eq_getElem?_getD, h1, h2] using this
theorem rowQ_bs0 (hL : LpOk n rs c) {i : Nat} (hi : i < rs.length) : rowQ n rs c (bs0 n rs.length) i = stRow n rs.length i (rs.getD i rw0) := by
  have hrl := hL.rl _ (rs_mem hi)
  refine ext_getD (z := 0) (by rw [Zi, stRow_len]) fun v hv => ?_
  rw [Zi] at hv; rw [ZX hv, stRow_at _ _ _ _ hv, rq_bs0 (by omega) (vcA_V v)]; by_cases h1 : n + rs.length + 1 = v
  · rw [if_pos h1, ← h1, vcA_hi]; show ((if i < rs.length then (rs.getD i rw0).b else 0 : Int) : Rat) = _; rw [if_pos hi]
  · rw [if_neg h1, vcA_lo (by omega)]; by_cases h2 : n + rs.length = v
    · rw [if_pos h2, ← h2, colA_art]; simp only; rw [if_pos hi]; rfl
    · rw [if_neg h2]; by_cases h3 : v < n
      · rw [if_neg (by omega), Yv h3, if_pos hi]; by_cases h4 : v < (rs.getD i rw0).cs.length
        · rw [if_pos h4]
        · rw [if_neg h4, getD_ge (by omega)]; rfl
      · obtain ⟨k, rfl⟩ : ∃ k, v = n + k := ⟨v - n, by omega⟩; rw [Z3 (by omega)]; unfold Go.Det.unit; by_cases h4 : i = k
        · rw [if_pos (by omega)]; simp [h4]
        · rw [if_neg (show ¬ n + i = n + k by omega), if_neg (show ¬ n + k < (rs.getD i rw0).cs.length by omega), if_neg h4]; rfl
theorem tst_bs0_rows (hL : LpOk n rs c) (g : Nat) : (tst n rs c g (bs0 n rs.length)).rows = stRows n rs := by
  unfold tst stRows
  exact List.map_congr_left fun i hi => rowQ_bs0 hL (List.mem_range.1 hi)
theorem tst_bs0_bas (g : Nat) : (tst n rs c g (bs0 n rs.length)).bas = rng n rs.length := by
  unfold tst rng
  exact List.map_congr_left fun i hi => by rw [bs0_lo (List.mem_range.1 hi)]
theorem rowQ_bs0_w : rowQ n rs c (bs0 n rs.length) (rs.length + 1) = (List.replicate (n + rs.length + 2) (0 : Rat)).set (n + rs.length) 1 := by
  refine ext_getD (z := 0) (by rw [Zi]; simp) fun v hv => ?_
  rw [Zi] at hv; rw [ZX hv, rq_bs0 (by omega) (vcA_V v)]; simp only [List.getD_eq_getElem?_getD, List.getElem?_set, List.length_replicate, List.getElem?_replicate, if_pos hv]; by_cases h1 : v = n + rs.length + 1
  · rw [if_neg (by omega), h1, vcA_hi]; show ((if rs.length + 1 < rs.length then (rs.getD (rs.length + 1) rw0).b else 0 : Int) : Rat) = _; rw [if_neg (by omega)]; rfl
  · rw [vcA_lo (by omega)]; by_cases h2 : n + rs.length = v
    · rw [if_pos h2, if_pos (by omega), ← h2, colA_art_w]; rfl
    · rw [if_neg h2, colA_w0 (by omega)]; rfl
def g0 (n : Nat) (rs : List Rw) (c : List Int) (v : Nat) : Int := vcA n rs c v rs.length
def goalK (n : Nat) (rs : List Rw) (c : List Int) (bs : List Nat) : Nat → List Rat
  | 0 => (List.range (n + rs.length + 2)).map fun v => ((g0 n rs c v : Int) : Rat)
  | k + 1 => (List.range (n + rs.length + 2)).map fun v => (goalK n rs c bs k).getD v 0 - ((g0 n rs c (bs.getD k 0) : Int) : Rat) * rq (colA n rs c) bs k (vcA n rs c v)
theorem Ya (k : Nat) : (goalK n rs c bs k).length = n + rs.length + 2 := by cases k <;> simp [goalK]
def offS (n : Nat) (rs : List Rw) (c : List Int) (bs : List Nat) (x : Vec) (k : Nat) : Int := sm (fun i => tt (colA n rs c) bs i x * colA n rs c (bs.getD i 0) rs.length) k
theorem goalK_at (hne : dD (colA n rs c) bs ≠ 0) : ∀ (k : Nat) {v : Nat}, v < n + rs.length + 2 → (∀ i, i < k → vcA n rs c (bs.getD i 0) = colA n rs c (bs.getD i 0)) → (goalK n rs c bs k).getD v 0 = shq (Go.Det.den (colA n rs c) bs * g0 n rs c v - offS n rs c bs (vcA n rs c v) k) (Go.Det.den (colA n rs c) bs)
  | 0, v, hv, _ => by
    show (List.map _ _).getD v 0 = _
    simp only [List.getD_eq_getElem?_getD, List.getElem?_map, List.getElem?_range hv, Option.map_some, Option.getD_some]
    rw [show offS n rs c bs (vcA n rs c v) 0 = 0 from rfl, Int.sub_zero, shq_int (den_pos hne)]
  | k + 1, v, hv, hb => by
    have ih := goalK_at hne k hv fun i hi => hb i (by omega)
    show (List.map _ _).getD v 0 = _
    simp only [List.getD_eq_getElem?_getD, List.getElem?_map, List.getElem?_range hv, Option.map_some, Option.getD_some]
    rw [← List.getD_eq_getElem?_getD, ih, rq_shq hne, ← List.getD_eq_getElem?_getD]
    have e1 : offS n rs c bs (vcA n rs c v) (k + 1) = offS n rs c bs (vcA n rs c v) k + tt (colA n rs c) bs k (vcA n rs c v) * g0 n rs c (bs.getD k 0) := by
      unfold g0; rw [hb k (by omega)]; rfl
    rw [e1]; generalize Go.Det.den (colA n rs c) bs * g0 n rs c v = x; generalize offS n rs c bs (vcA n rs c v) k = y; generalize tt (colA n rs c) bs k (vcA n rs c v) = t; generalize g0 n rs c (bs.getD k 0) = g
    have e2 : x - (y + t * g) = (x - y) + (-g) * t := by grind
    rw [e2, shq_add, shq_mul, Rat.intCast_neg]
    grind
theorem Ph.vc (h : Ph n rs c W T bs) (hW : W ≤ n + rs.length + 1) {i : Nat} (hi : i < rs.length) : bs.getD i 0 ≤ n + rs.length ∧ vcA n rs c (bs.getD i 0) = colA n rs c (bs.getD i 0) := by
  have := h.good.cov.bas i hi; exact ⟨by omega, vcA_lo (by omega)⟩
theorem Ph.goal_all (h : Ph n rs c W T bs) (hW : W ≤ n + rs.length + 1) : goalK n rs c bs rs.length = rowQ n rs c bs rs.length := by
  have hne := h.bas.ne
  refine ext_getD (z := 0) (by rw [Ya, Zi]) fun v hv => ?_
  rw [Ya] at hv; rw [goalK_at hne _ hv fun i hi => (h.vc hW hi).2, ZX hv, rq_shq hne]
  congr 1
  have hc := h.comp (vcA_V (n := n) (rs := rs) (c := c) v) rs.length; simp only [sm] at hc; rw [h.z, h.w, colA_z, colA_w] at hc; have e1 : Go.Det.unit rs.length rs.length = 1 := if_pos J; have e2 : Go.Det.unit (rs.length + 1) rs.length = 0 := if_neg (by omega); rw [e1, e2] at hc; unfold g0 offS; rw [hc]; grind
theorem Ph.goal_own (h : Ph n rs c W T bs) (hW : W ≤ n + rs.length + 1) {k : Nat} (hk : k < rs.length) : (goalK n rs c bs k).getD (bs.getD k 0) 0 = ((g0 n rs c (bs.getD k 0) : Int) : Rat) := by
  have hne := h.bas.ne; have hv := h.vc hW hk; rw [goalK_at hne _ (by omega) fun i hi => (h.vc hW (by omega)).2]
  have : offS n rs c bs (vcA n rs c (bs.getD k 0)) k = 0 := ZK fun i hi => by
    rw [hv.2, Zg h.bas.len (by omega) (by omega) (by omega), Int.zero_mul]
  rw [this, Int.sub_zero, shq_int (den_pos hne)]
theorem goal_next (k : Nat) : goalK n rs c bs (k + 1) = (List.range (goalK n rs c bs k).length).map (lessV (goalK n rs c bs k) ((g0 n rs c (bs.getD k 0) : Int) : Rat) (rowQ n rs c bs k)) := by
  rw [Ya]; show List.map _ _ = _
  refine List.map_congr_left fun v hv => ?_
  unfold lessV; rw [ZX (List.mem_range.1 hv)]
theorem goal_skip {k : Nat} (hz : g0 n rs c (bs.getD k 0) = 0) : goalK n rs c bs (k + 1) = goalK n rs c bs k := by
  refine ext_getD (z := 0) (by rw [Ya, Ya]) fun v hv => ?_
  rw [Ya] at hv; show (List.map _ _).getD v 0 = _; simp only [List.getD_eq_getElem?_getD, List.getElem?_map, List.getElem?_range hv, Option.map_some, Option.getD_some]; rw [← List.getD_eq_getElem?_getD, ← List.getD_eq_getElem?_getD, hz]; show _ - (0 : Rat) * _ = _
  grind
theorem goal_zero (hL : LpOk n rs c) : goalK n rs c bs 0 = cfR (c.map fun x => -x) (n + rs.length + 2) c.length := by
  have hcl := hL.cl; show List.map _ _ = List.map _ _
  refine List.map_congr_left fun v hv => ?_
  have hv := List.mem_range.1 hv; unfold g0; by_cases h1 : v = n + rs.length + 1
  · rw [if_neg (by omega), h1, vcA_hi]; show ((if rs.length < rs.length then (rs.getD rs.length rw0).b else 0 : Int) : Rat) = _; rw [if_neg (by omega)]; rfl
  · rw [vcA_lo (by omega)]; by_cases h2 : v < n
    · rw [Yv h2, if_neg (by omega), if_pos J, neg_getD]; by_cases h3 : v < c.length
      · rw [if_pos h3]
      · rw [if_neg h3, getD_ge (by omega)]; rfl
    · rw [if_neg (by omega)]; by_cases h3 : v = n + rs.length
      · rw [h3, colA_art]; simp only; rw [if_neg (by omega), if_neg (by omega)]; rfl
      · obtain ⟨k, rfl⟩ : ∃ k, v = n + k := ⟨v - n, by omega⟩; rw [Z3 (by omega), show Go.Det.unit k rs.length = 0 from if_neg (by omega)]; rfl
theorem Kt10 {m : Nat} (h : m ≤ 6) : 7 * (Kt m * 1048576) < 1073741824 ^ 9 := by
  have : m = 0 ∨ m = 1 ∨ m = 2 ∨ m = 3 ∨ m = 4 ∨ m = 5 ∨ m = 6 := by omega
  rcases this with rfl | rfl | rfl | rfl | rfl | rfl | rfl <;> decide +kernel
theorem goalK_Q9 (hL : LpOk n rs c) (hm : rs.length ≤ 6) (hl : bs.length = rs.length + 2) (hne : dD (colA n rs c) bs ≠ 0) {k : Nat} (hk : k ≤ rs.length) (hb : ∀ i, i < k → vcA n rs c (bs.getD i 0) = colA n rs c (bs.getD i 0)) : ∀ x ∈ goalK n rs c bs k, Q9 x := fun x hx => by
  obtain ⟨v, hv, rfl⟩ := List.getElem_of_mem hx
  have hv' := hv
  rw [Ya] at hv'
  have e := goalK_at hne k hv' hb
  rw [List.getD_eq_getElem?_getD, List.getElem?_eq_getElem hv, Option.getD_some] at e
  rw [e]
  have hd := den_pos hne
  have hK := Kt9 hm
  have h2 := tt_Kt hL (i := rs.length) hl (by omega) (.inr ⟨bs.getD rs.length 0, rfl⟩)
  rw [tt_own hl (by omega)] at h2
  have hg : (g0 n rs c v).natAbs ≤ 1048576 := by
    unfold g0; rcases vcA_or (n := n) (rs := rs) (c := c) v with e | ⟨u, e⟩
    · rw [e]; show (if rs.length < rs.length then (rs.getD rs.length rw0).b else 0 : Int).natAbs ≤ _; rw [if_neg (by omega)]; decide
    · rw [e]; exact colA_bd hL u _
  have h3 : (offS n rs c bs (vcA n rs c v) k).natAbs ≤ k * (Kt rs.length * 1048576) := sm_natAbs fun i hi => by
    rw [Int.natAbs_mul]; exact Nat.mul_le_mul (tt_Kt hL hl (by omega) (vcA_or v)) (colA_bd hL _ _)
  have h4 : (Go.Det.den (colA n rs c) bs * g0 n rs c v).natAbs ≤ Kt rs.length * 1048576 := by
    rw [Int.natAbs_mul]; exact Nat.mul_le_mul h2 hg
  have h5 : k * (Kt rs.length * 1048576) ≤ 6 * (Kt rs.length * 1048576) := Nat.mul_le_mul_right _ (by omega); have h6 := Kt10 hm; obtain ⟨l1, l2⟩ := mk_le (Go.Det.den (colA n rs c) bs * g0 n rs c v - offS n rs c bs (vcA n rs c v) k) (Go.Det.den (colA n rs c) bs).natAbs (by omega); exact ⟨Qf (Nat.lt_of_le_of_lt l1 (by omega)), Qf (Nat.lt_of_le_of_lt l2 (by omega))⟩
end
def wrR (rs : List Rw) : Nat → Int
  | 0 => -1
  | i + 1 => if (rs.getD i rw0).b < 0 ∧ (wrR rs i < 0 ∨ (rs.getD i rw0).b < (rs.getD (wrR rs i).toNat rw0).b) then i else wrR rs i
theorem wrR_bd (rs : List Rw) : ∀ i, -1 ≤ wrR rs i ∧ wrR rs i < i
  | 0 => by simp [wrR]
  | i + 1 => by
    have := wrR_bd rs i
    simp only [wrR]
    split <;> omega
theorem rset_ne {l : List Rat} {i j : Nat} {x : Rat} (h : i ≠ j) : (l.set i x).getD j 0 = l.getD j 0 := by simp [List.getD_eq_getElem?_getD, List.getElem?_set, h]
section
variable {n : Nat} {rs : List Rw} {c : List Int} {bs : List Nat} {W : Nat} {T : Tv}
theorem Beg.wr_eq (h : Beg n rs c T) : ∀ i, i ≤ rs.length → wrR rs i = wrS T i
  | 0, _ => rfl
  | i + 1, hi => by
    have ih := h.wr_eq i (by omega)
    have hV := h.view
    have hl := h.len
    have e : ∀ k, k < rs.length → T.at k T.col.length = (rs.getD k rw0).b := fun k hk => by
      rw [hV.rhs k (by omega), bs0_tt (by omega) Yo]
      exact if_pos hk
    have bd := wrS_bd T i
    simp only [wrR, wrS]
    rw [ih]
    refine ite_iff ?_
    rw [e i (by omega)]
    by_cases h1 : wrS T i < 0
    · simp only [h1, true_or]
    · rw [e _ (by omega)]
      omega
def dvJ (n : Nat) (rs : List Rw) (c : List Int) (bs : List Nat) (i : Nat) : Nat := (List.range (n + rs.length)).findIdx fun j => decide (rq (colA n rs c) bs i (colA n rs c j) ≠ 0)
def dv (n : Nat) (rs : List Rw) (c : List Int) (bs : List Nat) : Nat → List Nat
  | 0 => bs
  | i + 1 => if (dv n rs c bs i).getD i 0 = n + rs.length then (dv n rs c bs i).set i (dvJ n rs c (dv n rs c bs i) i) else dv n rs c bs i
theorem dvJ_least {i j : Nat} (h : j < dvJ n rs c bs i) : rq (colA n rs c) bs i (colA n rs c j) = 0 := by
  have h1 := List.not_of_lt_findIdx h
  have h2 : dvJ n rs c bs i ≤ n + rs.length := by
    unfold dvJ; have := List.findIdx_le_length (xs := List.range (n + rs.length)) (p := fun j => decide (rq (colA n rs c) bs i (colA n rs c j) ≠ 0)); simpa using this
  simpa using h1
theorem dvJ_hit {i j : Nat} (hj : j < n + rs.length) (h : rq (colA n rs c) bs i (colA n rs c j) ≠ 0) : dvJ n rs c bs i < n + rs.length ∧ rq (colA n rs c) bs i (colA n rs c (dvJ n rs c bs i)) ≠ 0 := by
  have h1 : dvJ n rs c bs i < n + rs.length := by
    refine Classical.byContradiction fun h2 => h (dvJ_least (by omega))
  refine ⟨h1, ?_⟩
  have h3 : dvJ n rs c bs i < (List.range (n + rs.length)).length := by simpa using h1
  have := List.findIdx_getElem (xs := List.range (n + rs.length)) (p := fun j => decide (rq (colA n rs c) bs i (colA n rs c j) ≠ 0)) (w := h3); have h4 : rq (colA n rs c) bs i (colA n rs c ((List.range (n + rs.length))[dvJ n rs c bs i]'h3)) ≠ 0 := of_decide_eq_true this; have e : (List.range (n + rs.length))[dvJ n rs c bs i]'h3 = dvJ n rs c bs i := List.getElem_range _; rw [e] at h4; exact h4
structure Dr (n : Nat) (rs : List Rw) (c : List Int) (k : Nat) (T : Tv) (bs : List Nat) : Prop where
  ph : Ph n rs c (n + rs.length + 1) T bs
  rows : T.rows.length = rs.length + 2
  col : T.col.length = n + 1
  art : ∀ r, r < rs.length → bs.getD r 0 = n + rs.length → k ≤ r ∧ tt (colA n rs c) bs r (rhsQ rs) = 0
theorem Dr.next (hL : LpOk n rs c) {k : Nat} (hk : k < rs.length) (h : Dr n rs c k T bs) (hb : bs.getD k 0 = n + rs.length) :
    dvJ n rs c bs k < n + rs.length ∧ rq (colA n rs c) bs k (colA n rs c (dvJ n rs c bs k)) ≠ 0 ∧ ∃ T', Dr n rs c (k + 1) T' (bs.set k (dvJ n rs c bs k)) := by
  have hP := h.ph; have hV := hP.good.view; have hne := hP.bas.ne; have hlen := hP.bas.len; obtain ⟨j, hj, hn⟩ := hP.row_ne hk hb; have hce := hV.colv j; have hcW := hP.good.cov.col j hj
  have hn1 : tt (colA n rs c) bs k (colA n rs c (T.col.getD j 0).toNat) ≠ 0 := by
    rw [← hV.num k (by rw [h.rows]; omega) j hj]; exact hn
  have hjl : (T.col.getD j 0).toNat < n + rs.length := by
    have := hP.good.cov.dis j k hj hk; omega
  have hq : rq (colA n rs c) bs k (colA n rs c (T.col.getD j 0).toNat) ≠ 0 := fun e => hn1 ((rq_sign hne k _).2.2.1 e)
  obtain ⟨d1, d2⟩ := dvJ_hit hjl hq; refine ⟨d1, d2, ?_⟩; generalize dvJ n rs c bs k = d at *
  have d3 : tt (colA n rs c) bs k (colA n rs c d) ≠ 0 := fun e => d2 ((rq_sign hne k _).2.2.2 e)
  rcases hP.good.cov.all d (by omega) with ⟨i, hi, he⟩ | ⟨s, hs, he⟩
  · exfalso
    refine d3 ?_
    rw [← he]; exact Zg hlen (by omega) (by omega) (fun e => by rw [e, hb] at he; omega)
  · have e : (T.col.getD s 0).toNat = d := by omega
    have hp : T.at k s ≠ 0 := by rw [hV.num k (by rw [h.rows]; omega) s hs, e]; exact d3
    have := hP.swap hL hk hs hp (h.art k hk hb).2; rw [e] at this; refine ⟨_, this, by rw [Zk]; exact h.rows, by rw [Z8]; exact h.col, fun r hr hbr => ?_⟩; exfalso; rw [getD_set' (by omega)] at hbr; by_cases h1 : k = r
    · rw [if_pos h1] at hbr; omega
    · rw [if_neg h1] at hbr; exact hne (Y3 (i := k) (k := r) (by omega) (by omega) (by omega) (by rw [hb, hbr]))
theorem Dr.skip {k : Nat} (h : Dr n rs c k T bs) (hb : bs.getD k 0 ≠ n + rs.length) : Dr n rs c (k + 1) T bs :=
  ⟨h.ph, h.rows, h.col, fun r hr hbr => by
    have := h.art r hr hbr
    refine ⟨?_, this.2⟩
    rcases Nat.lt_or_ge k r with h1 | h1
    · omega
    · exact absurd (show bs.getD k 0 = n + rs.length by rw [show k = r by omega]; exact hbr) hb⟩
theorem Dr.all (hL : LpOk n rs c) (h : Dr n rs c 0 T bs) : ∀ k, k ≤ rs.length → ∃ T', Dr n rs c k T' (dv n rs c bs k)
  | 0, _ => ⟨T, h⟩
  | k + 1, hk => by
    obtain ⟨T', h'⟩ := Dr.all hL h k (by omega)
    simp only [dv]
    split
    · rename_i hb
      exact (h'.next hL (by omega) hb).2.2
    · rename_i hb
      exact ⟨T', h'.skip hb⟩
theorem Dr.cut {k : Nat} (h : Dr n rs c k T bs) (hk : rs.length ≤ k) : ∃ T', Ph n rs c (n + rs.length) T' bs ∧ T'.rows.length = rs.length + 1 := by
  have hna : ∀ i, i < rs.length → bs.getD i 0 ≠ n + rs.length := fun i hi hb => by have := (h.art i hi hb).1; omega
  rcases h.ph.good.cov.all (n + rs.length) (by omega) with ⟨i, hi, he⟩ | ⟨j, hj, he⟩
  · exact absurd he (hna i hi)
  · exact ⟨_, h.ph.cut h.rows hna hj he, by show (delP _ _ _).length = _; rw [delP_len, List.length_take, h.rows]; omega⟩
structure Half2 (n : Nat) (rs : List Rw) (c : List Int) (bs bf : List Nat) (s : Int) : Prop where
  ph : ∃ T, Ph n rs c (n + rs.length) T bs
  run : ∃ k, ImpRun (n + rs.length + 2) (n + rs.length) (n + rs.length + 1) (tst n rs c rs.length bf) s k (tst n rs c rs.length bs)
  phf : ∃ T, Ph n rs c (n + rs.length) T bf
  endr : EndR n rs c rs.length (n + rs.length) bf s
theorem Ph.half (h : Ph n rs c (n + rs.length) T bs) (hL : LpOk n rs c) (hm : rs.length ≤ 6) (hT : rs.length < T.rows.length) : ∃ bf s, Half2 n rs c bs bf s := by
  obtain ⟨k, T', bf, s, h1, h2, h3, _, _⟩ := h.imp hL hm (Nat.le_refl _) (by omega) (g := rs.length) (Nat.le_refl _) (by omega) hT; exact ⟨bf, s, ⟨_, h⟩, ⟨k, h1⟩, ⟨_, h2⟩, h3⟩
def raR (X : TSt) (n j : Nat) : Nat → List Rat
  | 0 => (List.replicate n 0).set j 1
  | i + 1 => if X.bas.getD i 0 < n then (raR X n j i).set (X.bas.getD i 0).toNat (0 - X.at i j) else raR X n j i
theorem raR_len (X : TSt) (n j : Nat) : ∀ i, (raR X n j i).length = n
  | 0 => by simp [raR]
  | i + 1 => by simp only [raR]; split <;> simp [raR_len X n j i]
def oc2 (n : Nat) (rs : List Rw) (c : List Int) (bf : List Nat) (s : Int) : Oc :=
  if 0 ≤ s then ⟨2, frz0, (ptR (tst n rs c rs.length bf) n (n + rs.length + 1) rs.length).map ofQ, (raR (tst n rs c rs.length bf) n s.toNat rs.length).map ofQ, []⟩
  else ⟨1, ofQ ((tst n rs c rs.length bf).goal.getD (n + rs.length + 1) 0), (ptR (tst n rs c rs.length bf) n (n + rs.length + 1) rs.length).map ofQ, [], ((List.range rs.length).map fun i => (tst n rs c rs.length bf).goal.getD (n + i) 0).map ofQ⟩
theorem Ph.ptR_at (h : Ph n rs c (n + rs.length) T bs) {v : Nat} (hv : v < n) (g : Nat) : ∀ i, i ≤ rs.length → (ptR (tst n rs c g bs) n (n + rs.length + 1) i).getD v 0 = shq (sm (fun k => if bs.getD k 0 = v then tt (colA n rs c) bs k (rhsQ rs) else 0) i) (Go.Det.den (colA n rs c) bs)
  | 0, _ => by
    show (List.replicate n (0 : Rat)).getD v 0 = _
    rw [show sm _ 0 = 0 from rfl, shq_zero]
    simp [List.getD_eq_getElem?_getD, List.getElem?_replicate, hv]
  | i + 1, hi => by
    have ih := h.ptR_at hv g i (by omega)
    have hne := h.bas.ne
    have hlen := h.bas.len
    simp only [ptR, sm]
    rw [tst_bas (by omega), tst_at (by omega) (by omega), vcA_hi, rq_shq hne, Int.toNat_natCast]
    by_cases h1 : bs.getD i 0 = v
    · rw [if_pos (by omega), if_pos h1, h1]
      have hz : sm (fun k => if bs.getD k 0 = v then tt (colA n rs c) bs k (rhsQ rs) else 0) i = 0 := ZK fun k hk => if_neg fun e => hne (Y3 (i := i) (k := k) (by omega) (by omega) (by omega) (by rw [h1, e]))
      rw [hz, Int.zero_add]
      have hl := ptR_len (tst n rs c g bs) n (n + rs.length + 1) i
      simp [List.getD_eq_getElem?_getD, List.getElem?_set, hl, hv]
    · rw [if_neg h1, Int.add_zero, ← ih]
      split
      · rw [rset_ne (by omega)]
      · rfl
theorem Ph.raR_at (h : Ph n rs c (n + rs.length) T bs) {v s : Nat} (hv : v < n) (hs : s < n + rs.length) (g : Nat) : ∀ i, i ≤ rs.length → (∀ k, k < rs.length → bs.getD k 0 ≠ s) → (raR (tst n rs c g bs) n s i).getD v 0 = shq ((if v = s then Go.Det.den (colA n rs c) bs else 0) - sm (fun k => if bs.getD k 0 = v then tt (colA n rs c) bs k (colA n rs c s) else 0) i) (Go.Det.den (colA n rs c) bs)
  | 0, _, _ => by
    have hd := den_pos h.bas.ne
    show ((List.replicate n (0 : Rat)).set s 1).getD v 0 = _
    rw [show sm _ 0 = 0 from rfl, Int.sub_zero]
    by_cases h1 : v = s
    · subst h1
      rw [if_pos rfl]
      have := shq_int (b := 1) hd
      rw [Int.mul_one] at this
      rw [this]
      simp [List.getD_eq_getElem?_getD, hv]
    · rw [if_neg h1, shq_zero]
      simp [List.getD_eq_getElem?_getD, List.getElem?_set, List.getElem?_replicate, hv, Ne.symm h1]
  | i + 1, hi, hb => by
    have ih := h.raR_at hv hs g i (by omega) hb
    have hne := h.bas.ne
    have hlen := h.bas.len
    simp only [raR, sm]
    rw [tst_bas (by omega), tst_at (by omega) (by omega), vcA_lo (by omega), rq_shq hne, Int.toNat_natCast]
    by_cases h1 : bs.getD i 0 = v
    · rw [if_pos (by omega), if_pos h1, h1]
      have hz : sm (fun k => if bs.getD k 0 = v then tt (colA n rs c) bs k (colA n rs c s) else 0) i = 0 := ZK fun k hk => if_neg fun e => hne (Y3 (i := i) (k := k) (by omega) (by omega) (by omega) (by rw [h1, e]))
      rw [hz, Int.zero_add, if_neg (fun e => hb i (by omega) (by rw [h1, e]))]
      have hl := raR_len (tst n rs c g bs) n s i
      have e0 : (0 : Rat) - shq (tt (colA n rs c) bs i (colA n rs c s)) (Go.Det.den (colA n rs c) bs) = shq (0 - tt (colA n rs c) bs i (colA n rs c s)) (Go.Det.den (colA n rs c) bs) := by
        have := shq_mul (tt (colA n rs c) bs i (colA n rs c s)) (-1) (Go.Det.den (colA n rs c) bs); rw [show (0 : Int) - tt (colA n rs c) bs i (colA n rs c s) = -1 * tt (colA n rs c) bs i (colA n rs c s) by omega, this]; show _ = _ * (-1 : Rat)
        grind
      rw [e0]; simp [List.getD_eq_getElem?_getD, List.getElem?_set, hl, hv]
    · rw [if_neg h1, Int.add_zero, ← ih]; split
      · rw [rset_ne (by omega)]
      · rfl
theorem Half2.sol {bf : List Nat} {s : Int} (h : Half2 n rs c bs bf s) (hL : LpOk n rs c) : Sol n rs c (oc2 n rs c bf s) := by
  obtain ⟨T, hF⟩ := h.phf; have hne := hF.bas.ne; have hlen := hF.bas.len; have hpo := hF.point; have hdK := den_Kt hL hF
  have hvK := fun v => vx_Kt hL hF (.inl J) v
  have hpt : (ptR (tst n rs c rs.length bf) n (n + rs.length + 1) rs.length).map ofQ = ptl n (vx n rs c bf (rhsQ rs)) (Go.Det.den (colA n rs c) bf) := by
    rw [list_range (ptR_len _ n _ _) (fun v hv => hF.ptR_at hv rs.length rs.length (Nat.le_refl _)), List.map_map]; rfl
  rcases h.endr with ⟨hs, h1⟩ | ⟨e, hs, he, hnb, h1, h2⟩
  · have hdu := hF.dual h1
    have hdl : ((List.range rs.length).map fun i => (tst n rs c rs.length bf).goal.getD (n + i) 0).map ofQ = ptl rs.length (yx n rs c bf rs.length) (Go.Det.den (colA n rs c) bf) := by
      rw [List.map_map]
      refine List.map_congr_left fun i hi => ?_
      have hi := List.mem_range.1 hi; show ofQ ((tst n rs c rs.length bf).goal.getD (n + i) 0) = ofQ _; rw [goal_at (by omega), rq_shq hne]; rfl
    have hval : (tst n rs c rs.length bf).goal.getD (n + rs.length + 1) 0 = shq (tt (colA n rs c) bf rs.length (rhsQ rs)) (Go.Det.den (colA n rs c) bf) := by
      show (rowQ n rs c bf rs.length).getD _ 0 = _; rw [ZX (by omega), vcA_hi, rq_shq hne]
    unfold oc2; rw [if_neg (by rw [hs]; decide), hpt, hdl, hval]; exact .opt _ _ _ _ hpo.1 hpo.2 hdu.1 hdu.2 hdK (fun v _ => hvK v) (fun i _ => tt_Kt hL hlen (by omega) (.inr ⟨_, rfl⟩)) (tt_Kt hL hlen (by omega) (.inl J))
  · have hra := hF.ray he hnb h1 h2
    have hrl : (raR (tst n rs c rs.length bf) n e rs.length).map ofQ = ptl n (zx n rs c bf e) (Go.Det.den (colA n rs c) bf) := by
      rw [list_range (raR_len _ n e _) (fun v hv => hF.raR_at hv he rs.length rs.length (Nat.le_refl _) hnb), List.map_map]; rfl
    unfold oc2; rw [if_pos (by omega), hpt, hs, Int.toNat_natCast, hrl]; refine .unb _ _ _ hpo.1 hra hdK (fun v _ => hvK v) (fun v _ => ?_); have hb := vx_Kt hL hF (x := colA n rs c e) (.inr ⟨_, rfl⟩) v; unfold zx; by_cases h3 : v = e
    · rw [if_pos h3, h3, vx_out hnb, Int.sub_zero]; exact hdK
    · rw [if_neg h3]; omega
end
section
variable {n : Nat} {rs : List Rw} {c : List Int} {bs : List Nat} {W : Nat} {T : Tv}
structure Half1 (n : Nat) (rs : List Rw) (c : List Int) (bs : List Nat) : Prop where
  piv : Piv (n + rs.length + 2) (tst n rs c (rs.length + 1) (bs0 n rs.length)).rows (tst n rs c (rs.length + 1) ((bs0 n rs.length).set (wrR rs rs.length).toNat (n + rs.length))).rows (tst n rs c (rs.length + 1) (bs0 n rs.length)).goal (tst n rs c (rs.length + 1) ((bs0 n rs.length).set (wrR rs rs.length).toNat (n + rs.length))).goal (wrR rs rs.length).toNat (n + rs.length)
  run : ∃ k s, ImpRun (n + rs.length + 2) (n + rs.length + 1) (n + rs.length + 1) (tst n rs c (rs.length + 1) bs) s k (tst n rs c (rs.length + 1) ((bs0 n rs.length).set (wrR rs rs.length).toNat (n + rs.length)))
  ph : ∃ T, Ph n rs c (n + rs.length + 1) T bs
def oc3 (n : Nat) (rs : List Rw) (c : List Int) (bs : List Nat) : Oc := ⟨3, frz0, [], [], ((List.range rs.length).map fun i => (tst n rs c (rs.length + 1) bs).goal.getD (n + i) 0).map ofQ⟩
inductive RefRun (n : Nat) (rs : List Rw) (c : List Int) : Oc → Prop
  | keep (bf : List Nat) (s : Int) (hw : wrR rs rs.length < 0) (h : Half2 n rs c (bs0 n rs.length) bf s) : RefRun n rs c (oc2 n rs c bf s)
  | none (bs : List Nat) (hw : 0 ≤ wrR rs rs.length) (h : Half1 n rs c bs) (hv : (rq (colA n rs c) bs (rs.length + 1) (rhsQ rs)).num < 0) : RefRun n rs c (oc3 n rs c bs)
  | some (bs bf : List Nat) (s : Int) (hw : 0 ≤ wrR rs rs.length) (h : Half1 n rs c bs) (hv : ¬ (rq (colA n rs c) bs (rs.length + 1) (rhsQ rs)).num < 0)
      (T : Tv) (hd : Dr n rs c 0 T bs) (h2 : Half2 n rs c (dv n rs c bs rs.length) bf s) : RefRun n rs c (oc2 n rs c bf s)
theorem ref_run (hL : LpOk n rs c) (hm : rs.length ≤ 6) : ∃ O, RefRun n rs c O ∧ Sol n rs c O := by
  obtain ⟨T, _, _, _, hR, _⟩ := lp_sol hL; have hB := hR.beg; clear hR; have hwe := hB.wr_eq rs.length (Nat.le_refl _); have hl := hB.len
  have hcl : T.col.length = n := by rw [hB.col, X8]
  by_cases hw : wrR rs rs.length < 0
  · obtain ⟨bf, s, h⟩ := (hB.ph hL (by omega)).half hL hm (by omega); exact ⟨_, .keep bf s hw h, h.sol hL⟩
  · have hw0 : 0 ≤ wrR rs rs.length := by omega
    have hwb := wrR_bd rs rs.length; have hP := (hB.ph1 hL (by omega)).1
    have hrl : (pvt (insT T ((n + rs.length : Nat) : Int)) (wrS T rs.length).toNat T.col.length).rows.length = rs.length + 2 := by
      rw [Zk]; show (insP _ _ _ _).length = _; rw [insP_len]; simp [hl]
    have hil : (pvt (insT T ((n + rs.length : Nat) : Int)) (wrS T rs.length).toNat T.col.length).col.length = n + 1 := by
      rw [Z8]; show (T.col ++ [_]).length = _; simp [hcl]
    rw [← hwe] at hP hrl hil; obtain ⟨k, E, bs, s, hI, hPE, hEn, hr, hc⟩ := hP.imp hL hm (by omega) (Nat.le_refl _) (g := rs.length + 1) (by omega) (by omega) (by omega)
    have hne0 : rq (colA n rs c) (bs0 n rs.length) (wrR rs rs.length).toNat (colA n rs c (n + rs.length)) ≠ 0 := by
      rw [rq_bs0 (by omega) (Y5 _), colA_art]; simp only; rw [if_pos (by omega)]; decide
    have h1 : Half1 n rs c bs := ⟨tst_piv hL hm bs0_bas.1 (by omega) (by omega) (by omega) (by omega) hne0, ⟨k, s, hI⟩, ⟨E, hPE⟩⟩
    have hcov : ∀ v, v < n + rs.length + 1 → 0 ≤ tt (colA n rs c) bs (rs.length + 1) (colA n rs c v) := by
      rcases hEn with ⟨_, h1⟩ | ⟨e, _, he, _, h2, h3⟩
      · exact h1
      · exfalso; have hq := hPE.w_eq (Nat.le_refl _) (Y5 (n := n) (rs := rs) (c := c) e); have hd := den_pos hPE.bas.ne
        have hx : 0 ≤ colA n rs c e (rs.length + 1) := by
          by_cases h4 : e = n + rs.length
          · rw [h4, colA_art_w]; decide
          · rw [colA_w0 (by omega)]; decide
        have h5 := Int.mul_nonneg (Int.le_of_lt hd) hx
        have h6 : sm (fun k => if bs.getD k 0 = n + rs.length then tt (colA n rs c) bs k (colA n rs c e) else 0) rs.length ≤ sm (fun _ => 0) rs.length := sm_le fun k hk => by
          split
          · exact h3 k hk
          · exact Int.le_refl _
        rw [ZK (f := fun _ => 0) fun _ _ => rfl] at h6; omega
    have hE1 : End1 n rs c T E bs := ⟨hPE, hcov, by rw [hr, hrl], by rw [hc, hil]⟩; have hsg := rq_sign hPE.bas.ne (rs.length + 1) (rhsQ rs); by_cases hv : (rq (colA n rs c) bs (rs.length + 1) (rhsQ rs)).num < 0
    · refine ⟨_, .none bs hw0 h1 hv, ?_⟩
      have hdl : ((List.range rs.length).map fun i => (tst n rs c (rs.length + 1) bs).goal.getD (n + i) 0).map ofQ = ptl rs.length (yx n rs c bs (rs.length + 1)) (Go.Det.den (colA n rs c) bs) := by
        rw [List.map_map]
        refine List.map_congr_left fun i hi => ?_
        have hi := List.mem_range.1 hi; show ofQ ((tst n rs c (rs.length + 1) bs).goal.getD (n + i) 0) = ofQ _; rw [goal_at (by omega), rq_shq hPE.bas.ne]; rfl
      unfold oc3; rw [hdl]; exact .emp _ _ (hE1.refu (hsg.1.1 hv)) (den_Kt hL hPE) (fun i _ => tt_Kt hL hPE.bas.len (by omega) (.inr ⟨_, rfl⟩))
    · have hz : ∀ k, k < rs.length → (if bs.getD k 0 = n + rs.length then tt (colA n rs c) bs k (rhsQ rs) else 0) = 0 := by
        have hq := hPE.w_eq (Nat.le_refl _) (Yo (rs := rs)); rw [show rhsQ rs (rs.length + 1) = 0 from if_neg (by omega), Int.mul_zero] at hq
        have h3 : ¬ tt (colA n rs c) bs (rs.length + 1) (rhsQ rs) < 0 := fun e => hv (hsg.1.2 e)
        refine sm_zero_of (fun k hk => ?_) (by omega); split
        · exact hPE.good.feas k hk
        · exact Int.le_refl _
      have hD : Dr n rs c 0 E bs := ⟨hPE, by rw [hr, hrl], by rw [hc, hil], fun r hr hb => ⟨by omega, by have := hz r hr; rwa [if_pos hb] at this⟩⟩; obtain ⟨T', hD'⟩ := hD.all hL rs.length (Nat.le_refl _); obtain ⟨T2, hP2, hr2⟩ := hD'.cut (Nat.le_refl _); obtain ⟨bf, s2, h2⟩ := hP2.half hL hm (by omega); exact ⟨_, .some bs bf s2 hw0 h1 hv E hD h2, h2.sol hL⟩
end
attribute [local irreducible] Go.Own.Fin Ok OkF OkM Ops St
abbrev outZ : List CT := [.ex (.int .i64 0), .ex (.bool false), .ex (.slice none 0 0), .ex (.slice none 0 0), .ex (.slice none 0 0), .ex (.slice none 0 0), .ex (.slice none 0 0)]
theorem Yl (l : List Rat) : ratsC l = fracsC (l.map ofQ) := by simp [ratsC, fracsC, List.map_map]; rfl
set_option maxHeartbeats 32000000 in
theorem sol34_end (n : Nat) (rs : List Rw) (c : List Int) (bs bf : List Nat) (s : Int) (hL : LpOk n rs c) (hm6 : rs.length ≤ 6) (H : Half2 n rs c bs bf s) (ar ab : Option Addr) (lr cr lb cb : Nat) (S : BSet) (w : World) :
    St { P := Tryz.prog, n := 261, S0 := S, w0 := w, bor := noBor } [(0, .ct (intC n)), (6, .own 0), (8, .own 1), (9, .ct (intC ((n : Int) + rs.length + 1)))]
      ((1, .box 102 (taCs n rs.length (.slice ar lr cr) (tst n rs c rs.length bs).goal (.slice ab lb cb))) :: (0, .box 46 outZ) :: tEnt (.slice ar lr cr) (tst n rs c rs.length bs).rows (.slice ab lb cb) (tst n rs c rs.length bs).bas)
      (seqR (seqR (seqR (seqR (seqR (seqR (seqR (seqR (seqR (seqR (bodyOf Tryz.f28)))))))))))
      (bodyPost Tryz.prog Tryz.f28 (okPost { P := Tryz.prog, n := 261, S0 := S, w0 := w, bor := noBor } (.fr (tupT [ocC (oc2 n rs c bf s), intC 0])))) := by
  obtain ⟨k, hR⟩ := H.run; obtain ⟨Tf, hF⟩ := H.phf; have hn := hL.nn; have hTf : Tok (n + rs.length + 2) (tst n rs c rs.length bf) := tst_tok hL hm6 hF.bas.len hF.bas.ne (by omega); have hI := improve34_ok n rs.length (n + rs.length + 2) (n + rs.length) _ _ s k hR J (by omega) ar ab lr cr lb cb
  have hfb : ∀ i, 0 ≤ (tst n rs c rs.length bf).bas.getD i 0 := fun i => by
    by_cases hi : i < rs.length
    · rw [tst_bas hi]; omega
    · rw [getD_ge (by rw [hTf.b, Z7]; omega)]; exact Int.le_refl _
  have hPt := point34_ok n rs.length (n + rs.length + 2) (tst n rs c rs.length bf) hTf J hfb ar ab lr cr lb cb; have hDu := duals34_ok n rs.length (n + rs.length + 2) (tst n rs c rs.length bf) hTf (by omega) ar ab lr cr lb cb; have hfl := Z7 (n := n) (rs := rs) (c := c) (bs := bf) rs.length; rw [hfl] at hPt
  have e1 : ((n : Int) + rs.length + 1 - 1) = ((n + rs.length : Nat) : Int) := by omega
  have hEn := H.endr
  have hoc : oc2 n rs c bf s = if 0 ≤ s then ⟨2, frz0, (ptR (tst n rs c rs.length bf) n (n + rs.length + 1) rs.length).map ofQ, (raR (tst n rs c rs.length bf) n s.toNat rs.length).map ofQ, []⟩
    else ⟨1, ofQ ((tst n rs c rs.length bf).goal.getD (n + rs.length + 1) 0), (ptR (tst n rs c rs.length bf) n (n + rs.length + 1) rs.length).map ofQ, [], ((List.range rs.length).map fun i => (tst n rs c rs.length bf).goal.getD (n + i) 0).map ofQ⟩ := rfl
  generalize oc2 n rs c bf s = O at hoc ⊢; generalize tst n rs c rs.length bf = X at *; generalize tst n rs c rs.length bs = Y at *; clear hR H
  refine Qy ?_
  refine Zq (α := Unit) (fun _ => True) (fun _ => [(0, .ct (intC n)), (6, .own 0), (8, .own 1), (9, .ct (intC ((n : Int) + rs.length + 1))), (16, .ct (intC s))])
    (fun _ => (1, .box 102 (taCs n rs.length (.slice ar lr cr) X.goal (.slice ab lb cb))) :: (0, .box 46 outZ) :: tEnt (.slice ar lr cr) X.rows (.slice ab lb cb) X.bas) (fun _ _ => ?_) (fun KK hN => ?_)
  rotate_left
  · refine Qx (fun K hK => ?_); refine Qd (n := 5) J J J J J lTab J (Qq J J J (Qk (isub (by omega) (by omega)) J J J J ?_)); rw [e1]; skip; refine Zm [(1, .box 102 (taCs n rs.length (.slice ar lr cr) Y.goal (.slice ab lb cb))), (0, .box 46 outZ)] goimprove34 hI J J J (fun _ h => h.elim) J J J (fun _ _ => ?_); refine Qq J J J (QZ J J J J (QZ J J J J (Q8 5 J J J J J szTab5 J J (Qj J J J (Qv (hK _ _ ?_)))))); clear hK K; exact XW hN () trivial (by exact QJ J ⟨rfl, rfl, rfl, rfl, rfl, trivial⟩)
  clear hI e1; refine Qy (Qy (Qx fun K hK => ?_)); refine Qq J J J (Qk igeq J J J J (Qv (hK _ _ (Qz ?_)))); clear hK K; refine Q1 J (fun hs => ?_) (fun hs => ?_)
  · rw [if_pos hs] at hoc; rcases hEn with ⟨h1, _⟩ | ⟨e, rfl, he, _⟩
    · omega
    have e2 : (e : Int).toNat = e := Int.toNat_natCast e; rw [e2] at hoc; have hW1 : Ok Tryz.prog 61 [intC 1] (ratC 1) := Z2 1 (by decide) (by decide); have hW0 : Ok Tryz.prog 61 [intC 0] (ratC 0) := Z2 0 (by decide) (by decide); refine Qy (Qx fun K hK => ?_); refine Qq J J J (Ops.callFr 2 gozeros34 (zeros34_F n (by omega)) J J J J J J ?_); refine Qj J J J (Qv (hK _ _ (Qz (Qy (Qy ?_))))); clear hK K; refine Qx (fun K hK => ?_); refine Qq J J J (Qq J J J (Qk ilss J J J J (Qv (hK _ _ (Qz ?_))))); clear hK K
    refine Zq (α := Unit) (fun _ => True) (fun _ => [(0, .ct (intC n)), (6, .own 0), (8, .own 1), (16, .ct (intC e)), (17, .own 2)])
      (fun _ => (2, .row 38 3 (frR ((raR X n e 0).map some))) :: (1, .box 102 (taCs n rs.length (.slice ar lr cr) X.goal (.slice ab lb cb))) :: (0, .box 46 outZ) :: tEnt (.slice ar lr cr) X.rows (.slice ab lb cb) X.bas) (fun _ _ => ?_) (fun KK hN => ?_)
    rotate_left
    · refine Q1 J (fun hlt => ?_) (fun hlt => ?_)
      · refine Qx (fun K hK => ?_); refine Qq J J J (Qq J J J (QX Z9 hW1 J J J J (XX n J J J (by rw [ZW, List.length_replicate]) J sFracs (by omega) (by omega) J ?_))); rw [e2]
        refine stFr J J J J (by rw [List.length_replicate]; omega) szFrac ?_
        rw [show (List.replicate n (some (0 : Rat))).set e (some 1) = (raR X n e 0).map some by simp [raR, List.map_set]]; refine Qv (hK _ _ ?_); clear hK K; exact XW hN () trivial (by exact QJ J ⟨rfl, rfl, rfl, rfl, rfl, trivial⟩)
      · rw [show List.replicate n (some (0 : Rat)) = (raR X n e 0).map some by show _ = ((List.replicate n (0 : Rat)).set e 1).map some; rw [List.set_eq_of_length_le (by rw [List.length_replicate]; omega)]; simp]
        refine Q0 ?_
        exact XW hN () trivial (by exact QJ J ⟨rfl, rfl, rfl, rfl, rfl, trivial⟩)
    refine Qy (Qy (Qx fun K hK => ?_)); refine Qj J J J (Qv (hK _ _ (Qz (Q4 ?_)))); clear hK K
    refine Qn (α := Nat) (fun i => i ≤ rs.length)
      (fun i => [(0, .ct (intC n)), (6, .own 0), (8, .own 1), (16, .ct (intC e)), (17, .own 2), (18, .ct (intC i))])
      (fun i => (2, .row 38 3 (frR ((raR X n e i).map some))) :: (1, .box 102 (taCs n rs.length (.slice ar lr cr) X.goal (.slice ab lb cb))) :: (0, .box 46 outZ) :: tEnt (.slice ar lr cr) X.rows (.slice ab lb cb) X.bas) (fun i => rs.length - i) 0 (Nat.zero_le _) (by exact QJ J ⟨rfl, rfl, rfl, rfl, rfl, rfl, trivial⟩) ?_
    intro i hi
    (try dsimp only at hi ⊢)
    refine Qy (Qy (Qx fun K hK => ?_)); refine Qq J J J (QW J J J fG1 J (QK J J J J J lInt J (Qk ilss J J J J (Qv (hK _ _ (Qz ?_)))))); clear hK K; refine Q1 J (fun hil => ?_) (fun hil => ?_)
    · have k2 : (i : Int).toNat * 1 = i := by omega
      have hlt : i < X.rows.length := by omega
      have hwi := hTf.w i hlt; have hat : X.at i e = (X.rows.getD i []).getD e 0 := rfl; have q := hTf.q i hlt _ (Xj (z := (0 : Rat)) (show e < (X.rows.getD i []).length by omega)); rw [← hat] at q; have qn := q.n; have qd := q.d
      have l0 : (limbs (ofQ 0).num).length ≤ 20 := by decide +kernel
      have l1 : (limbs (ofQ 0).den).length ≤ 20 := by decide +kernel
      have en1 : (ofQ (0 - X.at i e)).num = (ofQ (X.at i e)).num := by
        rw [show (0 : Rat) - X.at i e = -(X.at i e) by grind]; show (-(X.at i e)).num.natAbs = _; rw [Rat.neg_num, Int.natAbs_neg]; rfl
      have ed1 : (ofQ (0 - X.at i e)).den = (ofQ (X.at i e)).den := by
        rw [show (0 : Rat) - X.at i e = -(X.at i e) by grind]; show (-(X.at i e)).den = _; rw [Rat.neg_den]; rfl
      have hSb := rFSub_q 0 (X.at i e) l0 l1 (by omega) (by omega); have hRd := rFReduce_q (0 - X.at i e) (by rw [en1]; omega) (by rw [ed1]; omega); have hbi := hfb i; have hrl := raR_len X n e i; have hTb := hTf.b
      have hrs : raR X n e (i + 1) = if X.bas.getD i 0 < n then (raR X n e i).set (X.bas.getD i 0).toNat (0 - X.at i e) else raR X n e i := rfl
      refine Q0 (Qz (Qy (Q4 (Qy (Qx fun K hK => ?_))))); refine QW J J J fG4 J (QK J J J J J lInts J (Qq J J J (Xc 9 X.bas.length J J J (by simp [ints]) J sInts (by omega) (by omega) J ?_))); rw [k2]
      refine QK J J J J (Xs (by omega)) lInt J ?_
      refine Qq J J J (Qk ilss J J J J (Qv (hK _ _ (Qz ?_)))); clear hK K; refine Q1 J (fun h2 => ?_) (fun h2 => ?_)
      · rw [if_pos h2] at hrs; obtain ⟨v, hv⟩ : ∃ v : Nat, X.bas.getD i 0 = v := ⟨(X.bas.getD i 0).toNat, by omega⟩; have e5 : (v : Int).toNat = v := Int.toNat_natCast v; rw [hv, e5] at hrs; rw [hv] at h2; refine Qy (Zq (α := Unit) (fun _ => True) (fun _ => [(0, .ct (intC n)), (6, .own 0), (8, .own 1), (16, .ct (intC e)), (17, .own 2), (18, .ct (intC i)), (19, .own 3)]) (fun _ => ((3, .box 38 (frCs (ofQ (0 - X.at i e)))) :: (2, .row 38 3 (frR ((raR X n e i).map some))) :: (1, .box 102 (taCs n rs.length (.slice ar lr cr) X.goal (.slice ab lb cb))) :: (0, .box 46 outZ) :: tEnt (.slice ar lr cr) X.rows (.slice ab lb cb) X.bas)) (fun _ _ => ?_) (fun KK hN => ?_)); rotate_left
        · skip; refine Xz mixed 14 (.p 1 (.p 3 (.p 6 (.f 2 (.p 4 (.f 5 (.p 7 (.f 8 (.fork 0 (.fork 9 (.p 10 (.p 11 (.p 12 (.m 13 (.a 14 (.p 15 .done)))))) 13 (.m 9 (.p 10 (.p 11 (.p 12 (.a 14 (.p 15 .done))))))) 13 (.m 0 (.m 9 (.p 10 (.p 11 (.p 12 (.a 14 (.p 15 .done)))))))))))))))) (by kernel_rfl) (fun K hK => ?_); refine (fun (cont : Go.Own.Fin _ [(0, .ct (intC n)), (6, .own 0), (8, .own 1), (16, .ct (intC e)), (17, .own 2), (18, .ct (intC i)), (19, .own 3)] ((3, .box 38 (frCs (ofQ (0 - X.at i e)))) :: (2, .row 38 3 (frR ((raR X n e i).map some))) :: (1, .box 102 (taCs n rs.length (.slice ar lr cr) X.goal (.slice ab lb cb))) :: (0, .box 46 outZ) :: tEnt (.slice ar lr cr) X.rows (.slice ab lb cb) X.bas) K) => ?_) (hK _ _ ?_); rotate_left
          · clear hK K; exact XW hN () trivial (by exact QJ J ⟨rfl, rfl, rfl, rfl, rfl, rfl, rfl, trivial⟩)
          clear hK; refine QW J J J fG2 J (Qq J J J (Qq J J J (QK J J J J J lRat2 J (Xc 8 X.rows.length J J J (rowsR_len _) J sRat2 (by omega) (by omega) J ?_)))); rw [k2]; refine QK J J J J (rowsR_at hlt) lRat1 J (Qc J J J sFracs (by omega) (Xl (by omega) (by omega)) J ?_)
          refine Xk (n := 3) J J J Qg J J ?_
          rw [e2]; skip; rw [← hat]
          refine Y0 ?_ ?_
          · refine QX Z9 hW0 J J J J (Y0 ?_ ?_)
            · refine QX gorFSub hSb J J J J (Qq J J J (QZ J J J J (QZ J J J J (Qa 3 J J zvFrac J J J (Q8 3 J J J J J szFrac J J (Qj J J J ?_)))))); exact Qv (Za cont ⟨rfl, rfl, rfl, rfl, rfl, rfl, rfl, trivial⟩)
            · refine Qa 3 J J zvFrac J J J (QX gorFSub hSb J J J J (Qq J J J (QZ J J J J (QZ J J J J (Q8 3 J J J J J szFrac J J (Qj J J J ?_)))))); exact Qv (Za cont ⟨rfl, rfl, rfl, rfl, rfl, rfl, rfl, trivial⟩)
          · refine Qa 3 J J zvFrac J J J (QX Z9 hW0 J J J J (QX gorFSub hSb J J J J (Qq J J J (QZ J J J J (QZ J J J J (Q8 3 J J J J J szFrac J J (Qj J J J ?_))))))); exact Qv (Za cont ⟨rfl, rfl, rfl, rfl, rfl, rfl, rfl, trivial⟩)
        skip; refine Xz mixed 9 (.p 0 (.p 1 (.p 3 (.f 2 (.p 4 (.f 5 (.f 6 (.m 7 (.p 8 (.a 9 .done)))))))))) (by kernel_rfl) (fun K hK => ?_); refine Qq J J J (QW J J J fG4 J (Qq J J J (QK J J J J J lInts J (Xc 9 X.bas.length J J J (by simp [ints]) J sInts (by omega) (by omega) J ?_)))); rw [k2]
        refine QK J J J J (Xs (by omega)) lInt J ?_
        rw [hv]; refine Qd (n := 3) J J J J J Qg J (QX gorFReduce hRd J J J J (XX n J J J (by rw [ZW, List.length_map, hrl]) J sFracs (by omega) (by omega) J ?_)); rw [e5]
        refine stFr J J J J (by rw [List.length_map]; omega) szFrac ?_
        rw [show ((raR X n e i).map some).set v (some (0 - X.at i e)) = (raR X n e (i + 1)).map some by rw [hrs, List.map_set]]; refine Qv (hK _ _ (Qz ?_)); clear hK K; refine Qx (fun K hK => ?_); refine Qq J J J (Qk (iadd (by omega) (by omega)) J J J J ?_); refine Qj J J J (Qv (hK _ _ (Q7 ?_))); clear hK K; refine Xy 3 (Qb (i + 1) (by omega) (by omega) (by exact QJ J ⟨rfl, rfl, rfl, rfl, rfl, by simp only [Int.natCast_add]; rfl, trivial⟩))
      · rw [if_neg h2] at hrs; rw [← hrs]; refine Q0 (Qz (Qx fun K hK => ?_)); refine Qq J J J (Qk (iadd (by omega) (by omega)) J J J J ?_); refine Qj J J J (Qv (hK _ _ (Q7 ?_))); clear hK K; refine Qb (i + 1) (by omega) (by omega) (by exact QJ J ⟨rfl, rfl, rfl, rfl, rfl, by simp only [Int.natCast_add]; rfl, trivial⟩)
    · have hi' : i = rs.length := by omega
      subst hi'; refine X6 2 _ J (frR_rats _ _) XV (Qm (Qz (Qy (Qx fun K hK => ?_)))); refine Qd (n := 5) J J J J J lTab J (Zm [(1, .box 102 (taCs n rs.length (.slice ar lr cr) X.goal (.slice ab lb cb))), (0, .box 46 outZ)] gopoint34 hPt J J J (fun _ h => h.elim) J J J (fun _ _ => ?_))
      refine Qq J J J ?_
      rw [Yl]; refine Xa J bOut J (.one J J J J (.one J J J J (.one J J J J .nil))) J (Q8 7 J J J J J szOut J J (Qj J J J (Qv (hK _ _ (Qz (QU (QV ?_))))))); clear hK K
      have hw : argW ([.ex (.int .i64 2)] ++ [.ex (.bool false), .ex (.slice none 0 0), .ex (.slice none 0 0)] ++ [fracsC ((ptR X n (n + rs.length + 1) rs.length).map ofQ), ratsC (raR X n e rs.length), .ex (.slice none 0 0)]) (ocCs O) := by
        rw [Yl (raR X n e rs.length), hoc]; exact ⟨Z4, Z4, w_nat0, w_nat0, Z4, Z4, w_nil, trivial⟩
      refine QY [_, _] rfl (Xh (w_agg hw) (Qp J J lOut J (Qu J QQ))) J J
  · rw [if_neg hs] at hoc; have qv := hTf.qg _ (Xj (z := (0 : Rat)) (show n + rs.length + 1 < X.goal.length by rw [hTf.g]; omega)); have qn := qv.n; have qd := qv.d; have hRd := rFReduce_q (X.goal.getD (n + rs.length + 1) 0) (by omega) (by omega); have hg := hTf.g
    have e4 : ((n : Int) + rs.length + 1).toNat = n + rs.length + 1 := by omega
    refine Q0 (Qz (Qy ?_)); refine St.drawQ mixed [7, 11] (.p 0 (.p 2 (.f 1 (.p 3 (.f 4 (.f 6 (.m 5 (.a 7 (.f 8 (.m 9 (.p 10 (.a 11 (.p 12 .done) .non)) .non)) (.m 8 (.a 7 (.m 9 (.p 10 (.a 11 (.p 12 .done) .non)) .non) .non) .non)) (.m 8 (.m 5 (.a 7 (.m 9 (.p 10 (.a 11 (.p 12 .done) .non)) .non) .non) .non) .non)))))))) (by kernel_rfl) (fun K hK => ?_); refine (fun (cont : Go.Own.Fin _ [(6, .own 0), (7, .ct (intC 0))] ((1, .box 102 (taCs n rs.length (.slice ar lr cr) X.goal (.slice ab lb cb))) :: (0, .box 46 ([.ex (.int .i64 1)] ++ frCs (ofQ (X.goal.getD (n + rs.length + 1) 0)) ++ [fracsC ((ptR X n (n + rs.length + 1) rs.length).map ofQ), .ex (.slice none 0 0), fracsC (((List.range rs.length).map fun i => X.goal.getD (n + i) 0).map ofQ)])) :: tEnt (.slice ar lr cr) X.rows (.slice ab lb cb) X.bas) K) => ?_) (hK _ _ ?_); rotate_left
    · clear hK K; skip; refine Qz (QU ?_)
      have hw : argW ([.ex (.int .i64 1)] ++ frCs (ofQ (X.goal.getD (n + rs.length + 1) 0)) ++ [fracsC ((ptR X n (n + rs.length + 1) rs.length).map ofQ), .ex (.slice none 0 0), fracsC (((List.range rs.length).map fun i => X.goal.getD (n + i) 0).map ofQ)]) (ocCs O) := by
        rw [hoc]; exact ⟨Z4, Z4, Z4, Z4, Z4, w_nil, Z4, trivial⟩
      refine QY [_, _] rfl (Xh (w_agg hw) (Qp J J lOut J (Qu J QQ))) J J
    clear hK; refine X3 (QW J J J fG3 J (Qv (X3 (Qq J J J (Qv (Fin.qf (QK J J J J J lRat1 J (Qv (X3 (Qc J J J sFracs (by omega) (Xl (by omega) (by omega)) J ?_)))))))))); refine Qv (Fin.qf (Xk (n := 3) J J J Qg J J ?_)); rw [e4]; skip; refine Qv (Fin.qf (Qd (n := 5) J J J J J lTab J (Qv (Xi ?_ ?_))))
    · refine QX gorFReduce hRd J J J J (Qv (XK ?_ ?_))
      · refine Zm [(1, .box 102 (taCs n rs.length (.slice ar lr cr) X.goal (.slice ab lb cb))), (0, .box 46 outZ)] gopoint34 hPt J J J (fun _ h => h.elim) J J J (fun _ _ => ?_); refine Qv (Fin.qf (Qd (n := 5) J J J J J lTab J (Qv (Xi ?_ Qo)))); refine QX goduals34 hDu J J J J (Qv ?_); rw [Yl, Yl]; refine X3 (Xa J bOut J (.one J J J J (.agg J J J J (.one J J J J (.one J J J J .nil)))) J (Qv ?_))
        refine XK ?_ Qo
        refine Q8 7 J J J J J szOut J J (Qv (X3 (Qj J J J (Qv ?_)))); exact Xo (Za cont ⟨rfl, rfl, trivial⟩)
      refine Xi ?_ Qo
      refine Qd (n := 5) J J J J J lTab J (Qv (XK ?_ Qo)); refine Zm [(1, .box 102 (taCs n rs.length (.slice ar lr cr) X.goal (.slice ab lb cb))), (0, .box 46 outZ)] gopoint34 hPt J J J (fun _ h => h.elim) J J J (fun _ _ => ?_); refine Qv (Xi ?_ Qo); refine QX goduals34 hDu J J J J (Qv ?_); rw [Yl, Yl]; refine X3 (Xa J bOut J (.one J J J J (.agg J J J J (.one J J J J (.one J J J J .nil)))) J (Qv ?_))
      refine XK ?_ Qo
      refine Q8 7 J J J J J szOut J J (Qv (X3 (Qj J J J (Qv ?_)))); exact Xo (Za cont ⟨rfl, rfl, trivial⟩)
    refine Xi ?_ Qo
    refine Qd (n := 5) J J J J J lTab J (Qv (Xi ?_ Qo)); refine QX gorFReduce hRd J J J J (Qv (XK ?_ Qo)); refine Zm [(1, .box 102 (taCs n rs.length (.slice ar lr cr) X.goal (.slice ab lb cb))), (0, .box 46 outZ)] gopoint34 hPt J J J (fun _ h => h.elim) J J J (fun _ _ => ?_); refine Qv (Xi ?_ Qo); refine QX goduals34 hDu J J J J (Qv ?_); rw [Yl, Yl]; refine X3 (Xa J bOut J (.one J J J J (.agg J J J J (.one J J J J (.one J J J J .nil)))) J (Qv ?_))
    refine XK ?_ Qo
    refine Q8 7 J J J J J szOut J J (Qv (X3 (Qj J J J (Qv ?_)))); exact Xo (Za cont ⟨rfl, rfl, trivial⟩)
end Go.Proofs.YtdhmbgogmoaofaaGreat
namespace Go.Proofs.YtdhmbgogmoaofaaGreat
open Go.Own Go.Limbs Go.Det
section
variable {X : Ctx} {L : AL} {B : BL} {ops : Array Oper} {K : Act → World → Prop} {r : Pl}
  {x y : Operand} {t t' : TypeId} {pos : String} {af : Array Edge} {g : Option (Nat × Bool)}
theorem stFrX {i j el : Nat} {v : Value} {l : List (Option Rat)} {q : Rat} (hg : gd ops L g = some true) (hx : ev L x = some (.loc i (j * 3))) (hi : bget B i = some (.rowx v el 3 (frR l))) (hy : ev L y = some (.ct (ratC q))) (hj : j < l.length) (hsz : (X.P.info? t).map (·.size) = some 3)
    (h : Ops X ops r L (bset B i (.rowx v el 3 (frR (l.set j (some q))))) K) : Ops X ops (.cons ⟨none, .store t x y, t', pos, af, g⟩ .any r) L B K :=
  Ops.stNA hg hx hi hy rfl hsz (by show j * 3 + 3 ≤ (frR l).length; rw [ZW]; omega) (by
    have : (Ent.rowx v el 3 (frR l)).putc (j * 3) (frCs (ofQ q)) = .rowx v el 3 (frR (l.set j (some q))) := by rw [← frR_put q hj]; rfl
    rw [this]; exact h)
end
attribute [local irreducible] St Ops Go.Own.Fin Ok OkM OkF
set_option maxHeartbeats 32000000 in
theorem sol34_goal (n : Nat) (rs : List Rw) (c : List Int) (bs bf : List Nat) (s : Int) (gC : CT) (hg1 : gC.one = true) (hL : LpOk n rs c) (hm6 : rs.length ≤ 6) (H : Half2 n rs c bs bf s) (ar ab : Option Addr) (lr cr lb cb : Nat) (S : BSet) (w : World) :
    St { P := Tryz.prog, n := 261, S0 := S, w0 := w, bor := noBor } [(0, .ct (intC n)), (2, .ct (intsC c)), (6, .own 0), (8, .own 1), (9, .ct (intC ((n : Int) + rs.length + 1)))]
      ((1, .box 102 [intC n, intC rs.length, .ex (.slice ar lr cr), gC, .ex (.slice ab lb cb)]) :: (0, .box 46 outZ) :: tEnt (.slice ar lr cr) (tst n rs c rs.length bs).rows (.slice ab lb cb) (tst n rs c rs.length bs).bas)
      (seqR (seqR (seqR (seqR (seqR (seqR (seqR (bodyOf Tryz.f28))))))))
      (bodyPost Tryz.prog Tryz.f28 (okPost { P := Tryz.prog, n := 261, S0 := S, w0 := w, bor := noBor } (.fr (tupT [ocC (oc2 n rs c bf s), intC 0])))) := by
  have hn := hL.nn
  have e1 : ((n : Int) + rs.length + 1 + 1) = ((n + rs.length + 2 : Nat) : Int) := by omega
  obtain ⟨Tp, hP⟩ := H.ph
  refine Qy ?_
  refine Zq (α := Nat × Nat) (fun x => n + rs.length + 2 ≤ x.2 ∧ x.2 ≤ maxLen) (fun _ => [(0, .ct (intC n)), (2, .ct (intsC c)), (6, .own 0), (8, .own 1), (9, .ct (intC ((n : Int) + rs.length + 1)))])
    (fun x => (2, .rowx (.slice (some ⟨x.1, 0, none⟩) (n + rs.length + 2) x.2) 38 3 (frR ((cfR (c.map fun x => -x) (n + rs.length + 2) 0).map some))) :: (1, .box 102 [intC n, intC rs.length, .ex (.slice ar lr cr), .ex (.slice (some ⟨x.1, 0, none⟩) (n + rs.length + 2) x.2), .ex (.slice ab lb cb)]) :: (0, .box 46 outZ) :: tEnt (.slice ar lr cr) (tst n rs c rs.length bs).rows (.slice ab lb cb) (tst n rs c rs.length bs).bas) (fun x hx => ?_) (fun KK hN => ?_)
  rotate_left
  · refine Qx (fun K hK => ?_); refine Qq J J J (Qk (iadd (by omega) (by omega)) J J J J ?_); rw [e1]; skip
    refine Ops.callFr 2 gozeros34 (zeros34_F (n + rs.length + 2) (by omega)) J J J J J J ?_
    rw [show List.replicate (n + rs.length + 2) (some (0 : Rat)) = (cfR (c.map fun x => -x) (n + rs.length + 2) 0).map some by rw [cfR_zero, List.map_replicate]]; refine X9 140 2 (n + rs.length + 2) J J (by rw [ZW, List.length_map, cfR_len]) (by omega) (by decide) (fun gb cp c1 c2 => ?_); refine QW J J J fG3 J (Xv J J J J J zFracs (Nat.le_of_ble_eq_true J) (Qv (hK _ _ ?_))); clear hK K; exact XW hN (gb, cp) ⟨c1, c2⟩ (by exact QJ J ⟨rfl, rfl, rfl, rfl, rfl, trivial⟩)
  obtain ⟨gb, cp⟩ := x; dsimp only at hx ⊢
  refine Qy ?_
  refine Zq (α := Unit) (fun _ => True) (fun _ => [(0, .ct (intC n)), (6, .own 0), (8, .own 1), (9, .ct (intC ((n : Int) + rs.length + 1)))])
    (fun _ => (1, .box 102 (taCs n rs.length (.slice ar lr cr) (goalK n rs c bs 0) (.slice ab lb cb))) :: (0, .box 46 outZ) :: tEnt (.slice ar lr cr) (tst n rs c rs.length bs).rows (.slice ab lb cb) (tst n rs c rs.length bs).bas) (fun _ _ => ?_) (fun KK hN => ?_)
  rotate_left
  · refine Qy (Qx fun K hK => ?_); refine Qj J J J (Qv (hK _ _ (Qz (Q4 ?_)))); clear hK K
    refine Qn (α := Nat) (fun i => i ≤ c.length)
      (fun i => [(0, .ct (intC n)), (2, .ct (intsC c)), (6, .own 0), (8, .own 1), (9, .ct (intC ((n : Int) + rs.length + 1))), (14, .ct (intC i))])
      (fun i => (2, .rowx (.slice (some ⟨gb, 0, none⟩) (n + rs.length + 2) cp) 38 3 (frR ((cfR (c.map fun x => -x) (n + rs.length + 2) i).map some))) :: (1, .box 102 [intC n, intC rs.length, .ex (.slice ar lr cr), .ex (.slice (some ⟨gb, 0, none⟩) (n + rs.length + 2) cp), .ex (.slice ab lb cb)]) :: (0, .box 46 outZ) :: tEnt (.slice ar lr cr) (tst n rs c rs.length bs).rows (.slice ab lb cb) (tst n rs c rs.length bs).bas) (fun i => c.length - i) 0 (Nat.zero_le _) (by exact QJ J ⟨rfl, rfl, rfl, rfl, rfl, rfl, trivial⟩) ?_
    intro i hi
    (try dsimp only at hi ⊢)
    have hcl := hL.cl; refine Qy (Qy (Qx fun K hK => ?_)); refine Qq J J J (Qq J J J (Q3 J J sInts.und (List.length_map ..) J (Qk ilss J J J J (Qv (hK _ _ (Qz ?_)))))); clear hK K; refine Q1 J (fun hlt => ?_) (fun hlt => ?_)
    · have e2 : (i : Int).toNat = i := Int.toNat_natCast i; have hcb := hL.cb i; have hW : Ok Tryz.prog 61 [intC (-(c.getD i 0))] (ratC ((-(c.getD i 0) : Int) : Rat)) := Z2 (-(c.getD i 0)) (by omega) (by omega); refine Q0 (Qz (Qy (Q4 ?_))); refine Xz mixed 10 (.p 0 (.p 2 (.p 3 (.p 4 (.p 5 (.f 1 (.f 6 (.p 7 (.m 8 (.p 9 (.a 10 .done))))))))))) (by kernel_rfl) (fun K hK => ?_); refine QW J J J fG3 J (Qq J J J (Qq J J J (Qq J J J (Qc J J J sInts (by omega) (Xw (by omega) (by omega)) J ?_)))); refine QK J J J J J lRat1 J (Ql J J J lInt J ?_); rw [e2]
      refine Ops.ineg J J (by omega) (by omega) J ?_
      refine QX Z9 hW J J J J (Xc 2 (n + rs.length + 2) J J J (by rw [ZW, List.length_map, cfR_len]) J sFracs (by omega) (by omega) J ?_); rw [e2]
      refine stFrX J J J J (by rw [List.length_map, cfR_len]; omega) szFrac ?_
      rw [show ((cfR (c.map fun x => -x) (n + rs.length + 2) i).map some).set i (some ((-(c.getD i 0) : Int) : Rat)) = (cfR (c.map fun x => -x) (n + rs.length + 2) (i + 1)).map some by rw [← cfR_set _ (by omega), List.map_set, neg_getD]]; refine Qv (hK _ _ (Qz ?_)); clear hK K; refine Qx (fun K hK => ?_); refine Qq J J J (Qk (iadd (by omega) (by omega)) J J J J ?_); refine Qj J J J (Qv (hK _ _ (Q7 ?_))); clear hK K; refine Qb (i + 1) (by omega) (by omega) (by exact QJ J ⟨rfl, rfl, rfl, rfl, rfl, by simp only [Int.natCast_add]; rfl, trivial⟩)
    · have hi' : i = c.length := by omega
      subst hi'; rw [← goal_zero hL (bs := bs)]
      refine St.frzX 2 1 3 _ J J J (frR_rats _ _) (fun _ h => h.elim) ?_
      refine Qm (Zj (Zj (Fin.blockE ?_))); exact XW hN () trivial (by exact QJ J ⟨rfl, rfl, rfl, rfl, trivial⟩)
  refine Qy ?_
  refine Zq (α := Unit) (fun _ => True) (fun _ => [(0, .ct (intC n)), (6, .own 0), (8, .own 1), (9, .ct (intC ((n : Int) + rs.length + 1)))])
    (fun _ => (1, .box 102 (taCs n rs.length (.slice ar lr cr) (tst n rs c rs.length bs).goal (.slice ab lb cb))) :: (0, .box 46 outZ) :: tEnt (.slice ar lr cr) (tst n rs c rs.length bs).rows (.slice ab lb cb) (tst n rs c rs.length bs).bas) (fun _ _ => sol34_end n rs c bs bf s hL hm6 H ar ab lr cr lb cb S w) (fun KK hN => ?_)
  refine Qy (Qx fun K hK => ?_); refine Qj J J J (Qv (hK _ _ (Qz (Q4 ?_)))); clear hK K
  refine Qn (α := Nat) (fun i => i ≤ rs.length)
    (fun i => [(0, .ct (intC n)), (6, .own 0), (8, .own 1), (9, .ct (intC ((n : Int) + rs.length + 1))), (15, .ct (intC i))])
    (fun i => (1, .box 102 (taCs n rs.length (.slice ar lr cr) (goalK n rs c bs i) (.slice ab lb cb))) :: (0, .box 46 outZ) :: tEnt (.slice ar lr cr) (tst n rs c rs.length bs).rows (.slice ab lb cb) (tst n rs c rs.length bs).bas) (fun i => rs.length - i) 0 (Nat.zero_le _) (by exact QJ J ⟨rfl, rfl, rfl, rfl, rfl, trivial⟩) ?_
  intro i hi
  (try dsimp only at hi ⊢)
  refine Qy (Qy (Qx fun K hK => ?_)); refine Qq J J J (QW J J J fG1 J (QK J J J J J lInt J (Qk ilss J J J J (Qv (hK _ _ (Qz ?_)))))); clear hK K; refine Q1 J (fun hlt => ?_) (fun hlt => ?_)
  · have k2 : (i : Int).toNat * 1 = i := by omega
    have hlt : i < rs.length := by omega
    have hbi := tst_bas (n := n) (rs := rs) (c := c) (bs := bs) (g := rs.length) hlt
    have hTl : (tst n rs c rs.length bs).bas.length = rs.length := by simp [tst]
    have hRl : (tst n rs c rs.length bs).rows.length = rs.length := Z7 _; have hv := hP.vc (by omega) hlt; have hgl := Ya (n := n) (rs := rs) (c := c) (bs := bs) i; have hown := hP.goal_own (by omega) hlt; have e5 : ((bs.getD i 0 : Nat) : Int).toNat = bs.getD i 0 := Int.toNat_natCast _; have hS := Yn (ofQ ((g0 n rs c (bs.getD i 0) : Int) : Rat)); rw [sgnF_q] at hS; refine Q0 (Qz (Qy (Q4 (Qy ?_)))); refine Xz mixed 11 (.p 0 (.p 2 (.p 4 (.f 1 (.f 3 (.p 5 (.f 6 (.p 7 (.f 8 (.m 9 (.p 10 .done))))))))))) (by kernel_rfl) (fun K hK => ?_); refine QW J J J fG3 J (QW J J J fG4 J (Qq J J J (QK J J J J J lRat1 J (QK J J J J J lInts J (Xc 9 rs.length J J J (by simp [ints, hTl]) J sInts (by omega) (by omega) J ?_))))); rw [k2]
    refine QK J J J J (Xs (by omega)) lInt J ?_
    rw [hbi]
    refine Qc J J J sFracs (by omega) (Xl (by omega) (by omega)) J ?_
    refine Xk (n := 3) J J J Qg J J ?_
    rw [e5, hown]; skip; refine QX goSign hS J J J J (Qk ineq J J J J (Qv (hK _ _ (Qz ?_)))); clear hK K; refine Q1 J (fun hz => ?_) (fun hz => ?_)
    · have hQa := goalK_Q9 hL hm6 hP.bas.len hP.bas.ne (k := i) (by omega) (fun j hj => (hP.vc (by omega) (by omega)).2)
      have hQk : Q9 ((g0 n rs c (bs.getD i 0) : Int) : Rat) := by
        rw [← hown]; exact hQa _ (Xj (z := (0 : Rat)) (by omega))
      have hQb := rowQ_Q9 (i := i) hL hm6 hP.bas.len hP.bas.ne (by omega); have hLs := less34_ok (goalK n rs c bs i) (rowQ n rs c bs i) ((g0 n rs c (bs.getD i 0) : Int) : Rat) (by rw [Zi, hgl]) (by omega) hQa hQb hQk; rw [← goal_next] at hLs; have hrow := Zd (n := n) (rs := rs) (c := c) (bs := bs) (g := rs.length) hlt; skip; refine Xz mixed 18 (.p 0 (.p 2 (.p 4 (.p 6 (.p 11 (.p 13 (.f 1 (.f 3 (.f 5 (.p 7 (.f 8 (.p 9 (.f 10 (.f 12 (.p 14 (.f 15 (.m 16 (.p 17 (.a 18 .done))))))))))))))))))) (by kernel_rfl) (fun K hK => ?_); refine QW J J J fG3 J (QW J J J fG3 J (QW J J J fG4 J (Qq J J J (QW J J J fG2 J (Qq J J J (QK J J J J J lRat1 J (QK J J J J J lRat1 J (QK J J J J J lInts J (Xc 9 rs.length J J J (by simp [ints, hTl]) J sInts (by omega) (by omega) J ?_))))))))); rw [k2]
      refine QK J J J J (Xs (by omega)) lInt J ?_
      rw [hbi]
      refine Qc J J J sFracs (by omega) (Xl (by omega) (by omega)) J ?_
      refine Xk (n := 3) J J J Qg J J (QK J J J J J lRat2 J ?_); rw [e5, hown]; skip
      refine Xc 8 rs.length J J J (by rw [rowsR_len, hRl]) J sRat2 (by omega) (by omega) J ?_
      rw [k2]
      refine QK J J J J (rowsR_at (by omega)) lRat1 J ?_
      rw [hrow]; skip; refine QX goless34 hLs J J J J (QW J J J fG3 J (Xv J J J J J zFracs (Nat.le_of_ble_eq_true J) (Qv (hK _ _ (Qz ?_))))); clear hK K; refine Qx (fun K hK => ?_); refine Qq J J J (Qk (iadd (by omega) (by omega)) J J J J ?_); refine Qj J J J (Qv (hK _ _ (Q7 ?_))); clear hK K; refine Qb (i + 1) (by omega) (by omega) (by exact QJ J ⟨rfl, rfl, rfl, rfl, by simp only [Int.natCast_add]; rfl, trivial⟩)
    · have hz0 : g0 n rs c (bs.getD i 0) = 0 := by
        have h1 : (((g0 n rs c (bs.getD i 0) : Int) : Rat)).num = g0 n rs c (bs.getD i 0) := rfl; rw [h1] at hz
        have h2 : (g0 n rs c (bs.getD i 0)).sign = 0 := by omega
        exact Int.sign_eq_zero_iff_zero.1 h2
      rw [← goal_skip hz0]; refine Q0 (Qz (Qx fun K hK => ?_)); refine Qq J J J (Qk (iadd (by omega) (by omega)) J J J J ?_); refine Qj J J J (Qv (hK _ _ (Q7 ?_))); clear hK K; refine Qb (i + 1) (by omega) (by omega) (by exact QJ J ⟨rfl, rfl, rfl, rfl, by simp only [Int.natCast_add]; rfl, trivial⟩)
  · have hi' : i = rs.length := by omega
    subst hi'; rw [hP.goal_all (by omega)]; refine Qm (Zj (Zj (Fin.blockE ?_))); exact XW hN () trivial (by exact QJ J ⟨rfl, rfl, rfl, rfl, trivial⟩)
end Go.Proofs.YtdhmbgogmoaofaaGreat
namespace Go.Own
def seqL : Code → Code
  | .seq a _ => a
  | c => c
def condT : Code → Code
  | .cond _ a _ => a
  | c => c
end Go.Own
namespace Go.Proofs.YtdhmbgogmoaofaaGreat
open Go.Own Go.Limbs Go.Det
attribute [local irreducible] St Ops Go.Own.Fin Ok OkM OkF
set_option maxHeartbeats 32000000 in
theorem sol34_drive (n : Nat) (rs : List Rw) (c : List Int) (bs : List Nat) (hL : LpOk n rs c) (hm6 : rs.length ≤ 6) {T : Tv} (hD : Dr n rs c 0 T bs) (ar ab : Option Addr) (lr cr lb cb : Nat) (S : BSet) (w : World) (Q : Exit → Act → World → Prop)
    (hQ : ∀ g : List Rat, Go.Own.Fin { P := Tryz.prog, n := 261, S0 := S, w0 := w, bor := noBor } [(0, .ct (intC n)), (2, .ct (intsC c)), (6, .own 0), (8, .own 1), (9, .ct (intC ((n : Int) + rs.length + 1)))]
      ((1, .box 102 (taCs n rs.length (.slice ar lr cr) g (.slice ab lb cb))) :: (0, .box 46 outZ) :: tEnt (.slice ar lr cr) (tst n rs c rs.length (dv n rs c bs rs.length)).rows (.slice ab lb cb) (tst n rs c rs.length (dv n rs c bs rs.length)).bas) (fun a w => Q .normal a w)) :
    St { P := Tryz.prog, n := 261, S0 := S, w0 := w, bor := noBor } [(0, .ct (intC n)), (2, .ct (intsC c)), (6, .own 0), (8, .own 1), (9, .ct (intC ((n : Int) + rs.length + 1)))]
      ((1, .box 102 (taCs n rs.length (.slice ar lr cr) (tst n rs c (rs.length + 1) bs).goal (.slice ab lb cb))) :: (0, .box 46 outZ) :: tEnt (.slice ar lr cr) (tst n rs c (rs.length + 1) bs).rows (.slice ab lb cb) (tst n rs c (rs.length + 1) bs).bas)
      (seqR (seqR (seqR (seqR (seqR (condT (seqR (seqL (seqR (seqR (seqR (seqR (seqR (seqR (bodyOf Tryz.f28)))))))))))))))
      Q := by
  have hn := hL.nn
  have e1 : ((n : Int) + rs.length + 1 - 1) = ((n + rs.length : Nat) : Int) := by omega
  have hT0 : ∀ b, (tst n rs c rs.length b).rows = (tst n rs c (rs.length + 1) b).rows ∧ (tst n rs c rs.length b).bas = (tst n rs c (rs.length + 1) b).bas := fun b => ⟨rfl, rfl⟩
  rw [(hT0 _).1, (hT0 _).2] at hQ; clear hT0; refine Qy (Qx fun K hK => ?_); refine Qj Y Y Y (Qv (hK _ _ (Qz (Q4 ?_)))); clear hK K
  refine Qn (α := Nat) (fun i => i ≤ rs.length)
    (fun i => [(0, .ct (intC n)), (2, .ct (intsC c)), (6, .own 0), (8, .own 1), (9, .ct (intC ((n : Int) + rs.length + 1))), (12, .ct (intC i))])
    (fun i => (1, .box 102 (taCs n rs.length (.slice ar lr cr) (tst n rs c (rs.length + 1) (dv n rs c bs i)).goal (.slice ab lb cb))) :: (0, .box 46 outZ) :: tEnt (.slice ar lr cr) (tst n rs c (rs.length + 1) (dv n rs c bs i)).rows (.slice ab lb cb) (tst n rs c (rs.length + 1) (dv n rs c bs i)).bas) (fun i => rs.length - i) 0 (Nat.zero_le _) (by exact QJ Y ⟨rfl, rfl, rfl, rfl, rfl, rfl, trivial⟩) ?_
  intro i hi
  (try dsimp only at hi ⊢)
  refine Qy (Qy (Qx fun K hK => ?_)); refine Qq Y Y Y (QW Y Y Y fG1 Y (QK Y Y Y Y Y lInt Y (Qk ilss Y Y Y Y (Qv (hK _ _ (Qz ?_)))))); clear hK K; refine Q1 Y (fun hlt => ?_) (fun hlt => ?_)
  · have k2 : (i : Int).toNat * 1 = i := by omega
    have hlt : i < rs.length := by omega
    obtain ⟨T', hDi⟩ := hD.all hL i (by omega)
    have hdv : dv n rs c bs (i + 1) = if (dv n rs c bs i).getD i 0 = n + rs.length then (dv n rs c bs i).set i (dvJ n rs c (dv n rs c bs i) i) else dv n rs c bs i := rfl
    generalize dv n rs c bs i = b at *; obtain ⟨b', hb'⟩ : ∃ b', dv n rs c bs (i + 1) = b' := ⟨_, rfl⟩; rw [hb'] at hdv; have hbl := hDi.ph.bas.len; have hbi := tst_bas (n := n) (rs := rs) (c := c) (bs := b) (g := rs.length + 1) hlt
    have hTl : (tst n rs c (rs.length + 1) b).bas.length = rs.length := by simp [tst]
    have hRl : (tst n rs c (rs.length + 1) b).rows.length = rs.length := Z7 _; refine Q0 (Qz (Qy (Q4 (Qy (Qy (Qx fun K hK => ?_)))))); refine QW Y Y Y fG4 Y (QK Y Y Y Y Y lInts Y (Qq Y Y Y (Xc 9 rs.length Y Y Y (by simp [ints, hTl]) Y sInts (by omega) (by omega) Y ?_))); rw [k2]
    refine QK Y Y Y Y (Xs (by omega)) lInt Y ?_
    rw [hbi]; refine Qq Y Y Y (Qk (isub (by omega) (by omega)) Y Y Y Y ?_); refine Qk ineq Y Y Y Y (Qv (hK _ _ (Qz ?_))); clear hK K; rw [e1]; skip; refine Q1 Y (fun hz => ?_) (fun hz => ?_)
    · rw [if_neg (by omega)] at hdv; subst hdv; refine Qm (Qz (Qx fun K hK => ?_)); refine Qq Y Y Y (Qk (iadd (by omega) (by omega)) Y Y Y Y ?_); refine Qj Y Y Y (Qv (hK _ _ (Q7 ?_))); clear hK K; refine Qb (i + 1) (by omega) (by omega) (by refine QJ ?_ ⟨rfl, rfl, rfl, rfl, rfl, by simp only [Int.natCast_add]; rfl, trivial⟩; rw [hb'])
    · have hz : b.getD i 0 = n + rs.length := by omega
      rw [if_pos hz] at hdv; obtain ⟨hJ, hJn, _⟩ := hDi.next hL hlt hz
      have hJl : ∀ j, j < dvJ n rs c b i → rq (colA n rs c) b i (colA n rs c j) = 0 := fun j hj => dvJ_least hj
      have hPv := tst_piv hL hm6 hDi.ph.bas (g := rs.length + 1) (by omega) (by omega) hlt (by omega) hJn; have hbs := tst_bas_set (n := n) (rs := rs) (c := c) (bs := b) (g := rs.length + 1) (r := i) (s := dvJ n rs c b i) hbl hlt; rw [← hdv] at hPv hbs; generalize dvJ n rs c b i = J at *; have hP := pivot34_ok n rs.length (n + rs.length + 2) _ _ _ _ (tst n rs c (rs.length + 1) b).bas i J hPv (by rw [hTl, hRl]) ar ab lr cr lb cb; rw [← hbs] at hP; have hrow := Zd (n := n) (rs := rs) (c := c) (bs := b) (g := rs.length + 1) hlt; refine Q0 (Qz (Qy (Qx fun K hK => ?_))); refine Qj Y Y Y (Qv (hK _ _ (Qz (Q4 ?_)))); clear hK K
      refine Qn (α := Nat) (fun j => j ≤ J)
        (fun j => [(0, .ct (intC n)), (2, .ct (intsC c)), (6, .own 0), (8, .own 1), (9, .ct (intC ((n : Int) + rs.length + 1))), (12, .ct (intC i)), (13, .ct (intC j))])
        (fun _ => (1, .box 102 (taCs n rs.length (.slice ar lr cr) (tst n rs c (rs.length + 1) b).goal (.slice ab lb cb))) :: (0, .box 46 outZ) :: tEnt (.slice ar lr cr) (tst n rs c (rs.length + 1) b).rows (.slice ab lb cb) (tst n rs c (rs.length + 1) b).bas) (fun j => J - j) 0 (Nat.zero_le _) (by exact QJ Y ⟨rfl, rfl, rfl, rfl, rfl, rfl, rfl, trivial⟩) ?_
      intro j hj
      (try dsimp only at hj ⊢)
      refine Qy (Qy (Qx fun K hK => ?_)); refine Qq Y Y Y (Qq Y Y Y (Qk (isub (by omega) (by omega)) Y Y Y Y ?_)); refine Qk ilss Y Y Y Y (Qv (hK _ _ (Qz ?_))); clear hK K; rw [e1]; skip; refine Q1 Y (fun hlt2 => ?_) (fun hlt2 => ?_)
      · have hrl := Zi (n := n) (rs := rs) (c := c) (bs := b) i; have e5 : (j : Int).toNat = j := Int.toNat_natCast j
        have hat : (rowQ n rs c b i).getD j 0 = rq (colA n rs c) b i (colA n rs c j) := by
          rw [ZX (by omega), vcA_lo (by omega)]
        have hS := Yn (ofQ (rq (colA n rs c) b i (colA n rs c j))); rw [sgnF_q] at hS; refine Q0 (Qz (Qy (Q4 (Qy (Qx fun K hK => ?_))))); refine QW Y Y Y fG2 Y (QK Y Y Y Y Y lRat2 Y (Qq Y Y Y (Xc 8 rs.length Y Y Y (by rw [rowsR_len, hRl]) Y sRat2 (by omega) (by omega) Y ?_))); rw [k2]
        refine QK Y Y Y Y (rowsR_at (by omega)) lRat1 Y ?_
        rw [hrow]; refine Qq Y Y Y (Qc Y Y Y sFracs (by omega) (Xl (by omega) (by omega)) Y ?_)
        refine Xk (n := 3) Y Y Y Qg Y Y ?_
        rw [e5, hat]; skip; refine QX goSign hS Y Y Y Y (Qk ineq Y Y Y Y (Qv (hK _ _ (Qz ?_)))); clear hK K; refine Q1 Y (fun hz2 => ?_) (fun hz2 => ?_)
        · have hjJ : j = J := by
            rcases Nat.lt_or_ge j J with h | h
            · rw [hJl j h] at hz2; exact absurd Y hz2
            · omega
          subst hjJ; refine Qy (Qx fun K hK => ?_); refine Qd (n := 5) Y Y Y Y Y lTab Y (Qq Y Y Y (Qq Y Y Y (Zm [(1, _), (0, _)] gopivot34 hP Y Y Y (fun _ h => h.elim) Y Y Y (fun _ _ => ?_)))); refine Q8 5 Y Y Y Y Y szTab5 Y Y (Qv (hK _ _ (Qz (Qm (Qz ?_))))); clear hK K; refine Qx (fun K hK => ?_); refine Qq Y Y Y (Qk (iadd (by omega) (by omega)) Y Y Y Y ?_); refine Qj Y Y Y (Qv (hK _ _ (Q7 ?_))); clear hK K; refine Qb (i + 1) (by omega) (by omega) (by refine QJ ?_ ⟨rfl, rfl, rfl, rfl, rfl, by simp only [Int.natCast_add]; rfl, trivial⟩; rw [hb']; rfl)
        · have hjJ : j ≠ J := fun e => by
            subst e
            have h2 : (rq (colA n rs c) b i (colA n rs c j)).num ≠ 0 := fun e => hJn (Rat.num_eq_zero.1 e)
            exact h2 (Int.sign_eq_zero_iff_zero.1 (by omega))
          refine Q0 (Qz (Qx fun K hK => ?_)); refine Qq Y Y Y (Qk (iadd (by omega) (by omega)) Y Y Y Y ?_); refine Qj Y Y Y (Qv (hK _ _ (Q7 ?_))); clear hK K; refine Qb (j + 1) (by omega) (by omega) (by exact QJ Y ⟨rfl, rfl, rfl, rfl, rfl, rfl, by simp only [Int.natCast_add]; rfl, trivial⟩)
      · exact absurd hlt2 (by omega)
  · have hi' : i = rs.length := by omega
    subst hi'; refine Qm (Zj (Zj (Fin.blockE ?_))); exact Fin.keep [(0, .ct (intC n)), (2, .ct (intsC c)), (6, .own 0), (8, .own 1), (9, .ct (intC ((n : Int) + rs.length + 1)))] ⟨rfl, rfl, rfl, rfl, rfl, trivial⟩ (hQ _)
end Go.Proofs.YtdhmbgogmoaofaaGreat
namespace Go.Proofs.YtdhmbgogmoaofaaGreat
open Go.Own Go.Limbs Go.Det
attribute [local irreducible] St Ops Go.Own.Fin Ok OkM OkF
set_option maxHeartbeats 32000000 in
theorem sol34_mid (n : Nat) (rs : List Rw) (c : List Int) (O : Oc) (hL : LpOk n rs c) (hm6 : rs.length ≤ 6) (H : RefRun n rs c O) (ar ab : Option Addr) (lr cr lb cb : Nat) (S : BSet) (w : World) :
    St { P := Tryz.prog, n := 261, S0 := S, w0 := w, bor := noBor } [(0, .ct (intC n)), (2, .ct (intsC c)), (6, .own 0), (8, .own 1), (9, .ct (intC ((n : Int) + rs.length + 1))), (10, .ct (intC (wrR rs rs.length)))]
      ((1, .box 102 [intC n, intC rs.length, .ex (.slice ar lr cr), .ex (.slice none 0 0), .ex (.slice ab lb cb)]) :: (0, .box 46 outZ) :: tEnt (.slice ar lr cr) (stRows n rs) (.slice ab lb cb) (rng n rs.length))
      (seqR (seqR (seqR (seqR (seqR (seqR (bodyOf Tryz.f28)))))))
      (bodyPost Tryz.prog Tryz.f28 (okPost { P := Tryz.prog, n := 261, S0 := S, w0 := w, bor := noBor } (.fr (tupT [ocC O, intC 0])))) := by
  have hn := hL.nn
  have e0 : ∀ g, stRows n rs = (tst n rs c g (bs0 n rs.length)).rows ∧ rng n rs.length = (tst n rs c g (bs0 n rs.length)).bas := fun g => ⟨(tst_bs0_rows hL g).symm, (tst_bs0_bas g).symm⟩
  have bd := wrR_bd rs rs.length; refine Qy (Qy (Qx fun K hK => ?_)); refine Qq J J J (Qk igeq J J J J (Qv (hK _ _ (Qz ?_)))); clear hK K; refine Q1 J (fun hw => ?_) (fun hw => ?_)
  · have e1 : ((n : Int) + rs.length + 1 + 1) = ((n + rs.length + 2 : Nat) : Int) := by omega
    have e2 : ((n : Int) + rs.length + 1 - 1) = ((n + rs.length : Nat) : Int) := by omega
    have e3 : ((n : Int) + rs.length + 1) = ((n + rs.length + 1 : Nat) : Int) := by omega
    obtain ⟨W, hW⟩ : ∃ W : Nat, wrR rs rs.length = W := ⟨(wrR rs rs.length).toNat, by omega⟩
    have hH : ∃ bs, Half1 n rs c bs ∧ (((rq (colA n rs c) bs (rs.length + 1) (rhsQ rs)).num < 0 ∧ O = oc3 n rs c bs) ∨ (¬ (rq (colA n rs c) bs (rs.length + 1) (rhsQ rs)).num < 0 ∧ ∃ bf s T, O = oc2 n rs c bf s ∧ Dr n rs c 0 T bs ∧ Half2 n rs c (dv n rs c bs rs.length) bf s)) := by
      cases H with
      | keep bf s h0 h => omega
      | none bs h0 h hv => exact ⟨bs, h, .inl ⟨hv, rfl⟩⟩
      | some bs bf s h0 h hv T hd h2 => exact ⟨bs, h, .inr ⟨hv, bf, s, T, rfl, hd, h2⟩⟩
    obtain ⟨bs, H1, hO⟩ := hH; clear H; rw [(e0 (rs.length + 1)).1, (e0 (rs.length + 1)).2, hW]
    have hWl : W < rs.length := by omega
    have hpv := H1.piv; obtain ⟨k, s0, hrun⟩ := H1.run; obtain ⟨TE, hPE⟩ := H1.ph; rw [hW, Int.toNat_natCast] at hpv hrun; have hg0 : (tst n rs c (rs.length + 1) (bs0 n rs.length)).goal = (List.replicate (n + rs.length + 2) (0 : Rat)).set (n + rs.length) 1 := rowQ_bs0_w
    have hbl : (tst n rs c (rs.length + 1) (bs0 n rs.length)).bas.length = (tst n rs c (rs.length + 1) (bs0 n rs.length)).rows.length := by simp [tst]
    have hP := pivot34_ok n rs.length (n + rs.length + 2) _ _ _ _ (tst n rs c (rs.length + 1) (bs0 n rs.length)).bas W (n + rs.length) hpv hbl ar ab lr cr lb cb; have hbs0l := (bs0_bas (n := n) (rs := rs) (c := c)).1.len; rw [← tst_bas_set hbs0l hWl] at hP; have hI := improve34_ok n rs.length (n + rs.length + 2) (n + rs.length + 1) _ _ s0 k hrun J (by omega) ar ab lr cr lb cb; have hTE : Tok (n + rs.length + 2) (tst n rs c (rs.length + 1) bs) := tst_tok hL hm6 hPE.bas.len hPE.bas.ne (by omega); have hgl := hTE.g; have hDu := duals34_ok n rs.length (n + rs.length + 2) _ hTE (by omega) ar ab lr cr lb cb
    have hgv : (tst n rs c (rs.length + 1) bs).goal.getD (n + rs.length + 1) 0 = rq (colA n rs c) bs (rs.length + 1) (rhsQ rs) := by
      show (rowQ n rs c bs (rs.length + 1)).getD _ 0 = _; rw [ZX (by omega), vcA_hi]
    have hS := Yn (ofQ (rq (colA n rs c) bs (rs.length + 1) (rhsQ rs))); rw [sgnF_q] at hS; have hW1 : Ok Tryz.prog 61 [intC 1] (ratC 1) := Z2 1 (by decide) (by decide); clear hpv hrun hTE
    refine Qy ?_
    refine Zq (α := Nat × Nat) (fun x => n + rs.length + 2 ≤ x.2 ∧ x.2 ≤ maxLen) (fun _ => [(0, .ct (intC n)), (2, .ct (intsC c)), (6, .own 0), (8, .own 1), (9, .ct (intC ((n : Int) + rs.length + 1))), (10, .ct (intC W))])
      (fun x => (2, .rowx (.slice (some ⟨x.1, 0, none⟩) (n + rs.length + 2) x.2) 38 3 (frR ((List.replicate (n + rs.length + 2) (0 : Rat)).map some))) :: (1, .box 102 [intC n, intC rs.length, .ex (.slice ar lr cr), .ex (.slice (some ⟨x.1, 0, none⟩) (n + rs.length + 2) x.2), .ex (.slice ab lb cb)]) :: (0, .box 46 outZ) :: tEnt (.slice ar lr cr) (tst n rs c (rs.length + 1) (bs0 n rs.length)).rows (.slice ab lb cb) (tst n rs c (rs.length + 1) (bs0 n rs.length)).bas) (fun x hx => ?_) (fun KK hN => ?_)
    rotate_left
    · refine Qx (fun K hK => ?_); refine Qq J J J (Qk (iadd (by omega) (by omega)) J J J J ?_); rw [e1]; skip
      refine Ops.callFr 2 gozeros34 (zeros34_F (n + rs.length + 2) (by omega)) J J J J J J ?_
      rw [show List.replicate (n + rs.length + 2) (some (0 : Rat)) = (List.replicate (n + rs.length + 2) (0 : Rat)).map some by rw [List.map_replicate]]; refine X9 75 2 (n + rs.length + 2) J J (by rw [ZW, List.length_map, List.length_replicate]) (by omega) (by decide) (fun gb cp c1 c2 => ?_); refine QW J J J fG3 J (Xv J J J J J zFracs (Nat.le_of_ble_eq_true J) (Qv (hK _ _ ?_))); clear hK K; exact XW hN (gb, cp) ⟨c1, c2⟩ (by exact QJ J ⟨rfl, rfl, rfl, rfl, rfl, rfl, trivial⟩)
    obtain ⟨gb, cp⟩ := x; dsimp only at hx ⊢
    refine Qy ?_
    refine Zq (α := Unit) (fun _ => True) (fun _ => [(0, .ct (intC n)), (2, .ct (intsC c)), (6, .own 0), (8, .own 1), (9, .ct (intC ((n : Int) + rs.length + 1))), (10, .ct (intC W))])
      (fun x => (2, .rowx (.slice (some ⟨gb, 0, none⟩) (n + rs.length + 2) cp) 38 3 (frR ((tst n rs c (rs.length + 1) (bs0 n rs.length)).goal.map some))) :: (1, .box 102 [intC n, intC rs.length, .ex (.slice ar lr cr), .ex (.slice (some ⟨gb, 0, none⟩) (n + rs.length + 2) cp), .ex (.slice ab lb cb)]) :: (0, .box 46 outZ) :: tEnt (.slice ar lr cr) (tst n rs c (rs.length + 1) (bs0 n rs.length)).rows (.slice ab lb cb) (tst n rs c (rs.length + 1) (bs0 n rs.length)).bas) (fun _ _ => ?_) (fun KK hN => ?_)
    rotate_left
    · skip; refine Xz mixed 6 (.p 0 (.p 2 (.p 3 (.f 1 (.m 4 (.p 5 (.a 6 .done))))))) (by kernel_rfl) (fun K hK => ?_); refine QW J J J fG3 J (Qq J J J (Qk (isub (by omega) (by omega)) J J J J ?_))
      refine QK J J J J J lRat1 J ?_
      rw [e2]; refine QX Z9 hW1 J J J J (Xc 2 (n + rs.length + 2) J J J (by rw [ZW, List.length_map, List.length_replicate]) J sFracs (by omega) (by omega) J ?_); rw [Int.toNat_natCast]
      refine stFrX J J J J (by rw [List.length_map, List.length_replicate]; omega) szFrac ?_
      rw [show ((List.replicate (n + rs.length + 2) (0 : Rat)).map some).set (n + rs.length) (some (1 : Rat)) = (tst n rs c (rs.length + 1) (bs0 n rs.length)).goal.map some by rw [hg0, List.map_set]]; refine Qv (hK _ _ ?_); clear hK K; exact XW hN () trivial (by exact QJ J ⟨rfl, rfl, rfl, rfl, rfl, rfl, trivial⟩)
    refine St.frzX 2 1 3 _ J J J (frR_rats _ _) (fun _ h => h.elim) ?_
    refine Qy ?_
    refine Zq (α := Unit) (fun _ => True) (fun _ => [(0, .ct (intC n)), (2, .ct (intsC c)), (6, .own 0), (8, .own 1), (9, .ct (intC ((n : Int) + rs.length + 1)))])
      (fun x => (1, .box 102 (taCs n rs.length (.slice ar lr cr) (tst n rs c (rs.length + 1) ((bs0 n rs.length).set W (n + rs.length))).goal (.slice ab lb cb))) :: (0, .box 46 outZ) :: tEnt (.slice ar lr cr) (tst n rs c (rs.length + 1) ((bs0 n rs.length).set W (n + rs.length))).rows (.slice ab lb cb) (tst n rs c (rs.length + 1) ((bs0 n rs.length).set W (n + rs.length))).bas) (fun _ _ => ?_) (fun KK hN => ?_)
    rotate_left
    · refine Qx (fun K hK => ?_); refine Qd (n := 5) J J J J J lTab J (Qq J J J (Qq J J J (Qk (isub (by omega) (by omega)) J J J J ?_))); rw [e2]; skip; refine Zm [(1, _), (0, _)] gopivot34 hP J J J (fun _ h => h.elim) J J J (fun _ _ => ?_); refine Q8 5 J J J J J szTab5 J J (Qv (hK _ _ ?_)); clear hK K; exact XW hN () trivial (by exact QJ J ⟨rfl, rfl, rfl, rfl, rfl, trivial⟩)
    refine Qy ?_
    refine Zq (α := Unit) (fun _ => True) (fun _ => [(0, .ct (intC n)), (2, .ct (intsC c)), (6, .own 0), (8, .own 1), (9, .ct (intC ((n : Int) + rs.length + 1)))])
      (fun x => (1, .box 102 (taCs n rs.length (.slice ar lr cr) (tst n rs c (rs.length + 1) bs).goal (.slice ab lb cb))) :: (0, .box 46 outZ) :: tEnt (.slice ar lr cr) (tst n rs c (rs.length + 1) bs).rows (.slice ab lb cb) (tst n rs c (rs.length + 1) bs).bas) (fun _ _ => ?_) (fun KK hN => ?_)
    rotate_left
    · refine Qx (fun K hK => ?_); refine Qd (n := 5) J J J J J lTab J (Qq J J J ?_); rw [e3]; skip; refine Zm [(1, _), (0, _)] goimprove34 hI J J J (fun _ h => h.elim) J J J (fun _ _ => ?_); refine Qq J J J (QZ J J J J (QZ J J J J (Q8 5 J J J J J szTab5 J J (Qv (hK _ _ ?_))))); clear hK K; exact XW hN () trivial (by exact QJ J ⟨rfl, rfl, rfl, rfl, rfl, trivial⟩)
    clear hP hI hg0 hbl; refine Qy (Qy (Qx fun K hK => ?_)); refine QW J J J fG3 J (QK J J J J J lRat1 J (Qq J J J (Qc J J J sFracs (by omega) (Xl (by omega) (by omega)) J ?_)))
    refine Xk (n := 3) J J J Qg J J ?_
    rw [e3, Int.toNat_natCast, hgv]; skip; refine QX goSign hS J J J J (Qk ilss J J J J (Qv (hK _ _ (Qz ?_)))); clear hK K; refine Q1 J (fun hz => ?_) (fun hz => ?_)
    · have hz2 : (rq (colA n rs c) bs (rs.length + 1) (rhsQ rs)).num < 0 := Classical.byContradiction fun h => by
        rcases Int.lt_or_eq_of_le (Int.not_lt.1 h) with h1 | h1
        · rw [Int.sign_eq_one_of_pos h1] at hz; omega
        · rw [← h1] at hz; exact absurd hz (by decide)
      rcases hO with ⟨_, hO⟩ | ⟨h, _⟩
      · refine Qy (Qx fun K hK => ?_); refine Qd (n := 5) J J J J J lTab J (QX goduals34 hDu J J J J ?_); skip; rw [Yl]; refine Xa J bOut J (.one J J J J (.one J J J J .nil)) J (Q8 7 J J J J J szOut J J (Qj J J J (Qv (hK _ _ (Qz (QU (QV (QV ?_)))))))); clear hK K
        have hw : argW [.ex (.int .i64 3), .ex (.bool false), .ex (.slice none 0 0), .ex (.slice none 0 0), .ex (.slice none 0 0), .ex (.slice none 0 0), fracsC (((List.range rs.length).map fun i => (tst n rs c (rs.length + 1) bs).goal.getD (n + i) 0).map ofQ)] (ocCs O) := by
          rw [hO]; exact ⟨Z4, Z4, w_nat0, w_nat0, w_nil, w_nil, Z4, trivial⟩
        refine QY [_, _] rfl (Xh (w_agg hw) (Qp J J lOut J (Qu J QQ))) J J
      · exact absurd hz2 h
    · rcases hO with ⟨h, _⟩ | ⟨_, bf, s, T, hO, hd, h2⟩
      · exfalso; have := Int.sign_eq_neg_one_iff_neg.2 h; omega
      · subst hO; refine Q0 (Qz (St.keep [(0, .ct (intC n)), (2, .ct (intsC c)), (6, .own 0), (8, .own 1), (9, .ct (intC ((n : Int) + rs.length + 1)))] ⟨rfl, rfl, rfl, rfl, rfl, trivial⟩ ?_)); exact sol34_drive n rs c bs hL hm6 hd ar ab lr cr lb cb S w _ (fun g => Qz (sol34_goal n rs c _ bf s _ J hL hm6 h2 ar ab lr cr lb cb S w))
  · cases H with
    | keep bf s h0 h =>
      rw [(e0 rs.length).1, (e0 rs.length).2]; refine Q0 (Qz (St.keep [(0, .ct (intC n)), (2, .ct (intsC c)), (6, .own 0), (8, .own 1), (9, .ct (intC ((n : Int) + rs.length + 1)))] ⟨rfl, rfl, rfl, rfl, rfl, trivial⟩ ?_)); exact sol34_goal n rs c _ bf s (.ex (.slice none 0 0)) J hL hm6 h ar ab lr cr lb cb S w
    | none bs h0 h hv => omega
    | some bs bf s h0 h hv T hd h2 => omega
theorem gorSolve : InGo Tryz.prog 28 := InGo.of Tryz.func28 (by kernel_rfl) (by kernel_rfl)
set_option maxHeartbeats 32000000 in
theorem rSolve_ok (n : Nat) (rs : List Rw) (c : List Int) (O : Oc) (hL : LpOk n rs c) (hm6 : rs.length ≤ 6) (hv : validR n rs = true) (hc : okCoeffs n c = true) (H : RefRun n rs c O) : Ok Tryz.prog 28 [intC n, rowsC rs, intsC c] (.fr (tupT [ocC O, intC 0])) := by
  have hn := hL.nn; have hV := Zc n rs (by omega) (fun r hr => by have := hL.rl r hr; omega); have hC := rValidGoal_ok n c (by have := hL.cl; omega); rw [hv] at hV; rw [hc] at hC; have hSt := start34_ok n rs (by omega) (by omega) (lp_rw hL).1
  refine Ok.enter Tryz.func28 J _ Tryz.ntmps28 J ?_
  intro S w; refine Qy (Qx fun K hK => ?_); refine Qa 0 J J zvOut J J J (Qj J J J (Qv (hK _ _ (Qz (Qy (Qy ?_)))))); clear hK K; refine Qx (fun K hK => ?_); refine Qq J J J (Qq J J J (QX gorLValid hV J J J J (Qe J J J (Qq J J J (Qq J J J (Qq J J J (QX gorValidGoal hC J J J J (Qe J J J (Q2 J J J J (Qv (hK _ _ (Qz (Qr J (Q0 (Qz (Qy ?_)))))))))))))))); clear hK K; refine Qx (fun K hK => ?_); refine Qq J J J (Qq J J J (Ops.callM [(0, _)] (fun j => Nat.blt j 8) gostart34 hSt J J J (fun _ h => h.elim) (fun _ => rfl) (fun j hj => ?_) (fun j hj => .inr fun q => te_none (Nat.le_of_ble_eq_true hj)) (fun p hp => absurd hp (by simp)) (fun q j hq => ?_) (fun q hq => ?_)))
  · have hj0 : j = 0 := by
      by_cases h0 : 0 = j
      · exact h0.symm
      · rw [Xx _ _ h0] at hj; cases hj
    subst hj0; exact ⟨rfl, fun q => te_none (by decide)⟩
  · rcases hq with hq | ⟨o, hq⟩ <;> cases hq
  have key : ∀ v, IsH rs.length v → ∃ (a : Option Addr) (l c : Nat), v = .slice a l c := fun v hv => by
    rcases hv with ⟨_, rfl⟩ | ⟨_, gb, c, _, _, rfl⟩
    · exact ⟨_, _, _, rfl⟩
    · exact ⟨_, _, _, rfl⟩
  obtain ⟨hR, hB⟩ := q; obtain ⟨hq1, hq2⟩ := hq; obtain ⟨ar, lr, cr, rfl⟩ := key hR hq1; obtain ⟨ab, lb, cb, rfl⟩ := key hB hq2; clear hq1 hq2 key hSt hV hC
  refine Ops.reB (B' := [(0, .box 46 outZ)] ++ tEnt _ _ _ _) (fun j => te_swap J _ _ _ _ j) ?_
  refine Qa 1 J J zvTab J J J (Q8 5 J J J J J szTab5 J J (Qv (hK _ _ ?_))); clear hK K; refine Qz (Qy (Zq (α := Unit) (fun _ => True) (fun _ => [(0, .ct (intC n)), (1, .ct (rowsC rs)), (2, .ct (intsC c)), (6, .own 0), (8, .own 1), (9, .ct (intC ((n : Int) + rs.length + 1)))]) (fun _ => (1, .box 102 [intC n, intC rs.length, .ex (.slice ar lr cr), .ex (.slice none 0 0), .ex (.slice ab lb cb)]) :: (0, .box 46 outZ) :: tEnt (.slice ar lr cr) (stRows n rs) (.slice ab lb cb) (rng n rs.length)) (fun _ _ => ?_) (fun KK hN => ?_))); rotate_left
  · refine Qx (fun K hK => ?_); refine QW J J J fG0 J (QK J J J J J lInt J (QW J J J fG1 J (QK J J J J J lInt J (Qk (iadd (by omega) (by omega)) J J J J ?_))))
    refine Qk (iadd (by omega) (by omega)) J J J J ?_
    refine Qj J J J (Qv (hK _ _ ?_)); clear hK K; exact XW hN () trivial (by exact QJ J ⟨rfl, rfl, rfl, rfl, rfl, rfl, trivial⟩)
  refine Qy (Zq (α := Unit) (fun _ => True) (fun _ => [(0, .ct (intC n)), (1, .ct (rowsC rs)), (2, .ct (intsC c)), (6, .own 0), (8, .own 1), (9, .ct (intC ((n : Int) + rs.length + 1))), (10, .ct (intC (-1)))]) (fun _ => (1, .box 102 [intC n, intC rs.length, .ex (.slice ar lr cr), .ex (.slice none 0 0), .ex (.slice ab lb cb)]) :: (0, .box 46 outZ) :: tEnt (.slice ar lr cr) (stRows n rs) (.slice ab lb cb) (rng n rs.length)) (fun _ _ => ?_) (fun KK hN => ?_)); rotate_left
  · refine Qx (fun K hK => ?_); refine Qj J J J (Qv (hK _ _ ?_)); clear hK K; exact XW hN () trivial (by exact QJ J ⟨rfl, rfl, rfl, rfl, rfl, rfl, rfl, trivial⟩)
  refine Qy ?_
  refine Zq (α := Unit) (fun _ => True) (fun _ => [(0, .ct (intC n)), (2, .ct (intsC c)), (6, .own 0), (8, .own 1), (9, .ct (intC ((n : Int) + rs.length + 1))), (10, .ct (intC (wrR rs rs.length)))])
      (fun _ => (1, .box 102 [intC n, intC rs.length, .ex (.slice ar lr cr), .ex (.slice none 0 0), .ex (.slice ab lb cb)]) :: (0, .box 46 outZ) :: tEnt (.slice ar lr cr) (stRows n rs) (.slice ab lb cb) (rng n rs.length)) (fun _ _ => sol34_mid n rs c O hL hm6 H ar ab lr cr lb cb S w) (fun KK hN => ?_)
  clear H; refine Qy (Qx fun K hK => ?_); refine Qj J J J (Qv (hK _ _ (Qz (Q4 ?_)))); clear hK K
  refine Qn (α := Nat) (fun i => i ≤ rs.length)
    (fun i => [(0, .ct (intC n)), (1, .ct (rowsC rs)), (2, .ct (intsC c)), (6, .own 0), (8, .own 1), (9, .ct (intC ((n : Int) + rs.length + 1))), (10, .ct (intC (wrR rs i))), (11, .ct (intC i))])
    (fun _ => (1, .box 102 [intC n, intC rs.length, .ex (.slice ar lr cr), .ex (.slice none 0 0), .ex (.slice ab lb cb)]) :: (0, .box 46 outZ) :: tEnt (.slice ar lr cr) (stRows n rs) (.slice ab lb cb) (rng n rs.length)) (fun i => rs.length - i) 0 (Nat.zero_le _) (by exact QJ J ⟨rfl, rfl, rfl, rfl, rfl, rfl, rfl, rfl, trivial⟩) ?_
  intro i hi
  (try dsimp only at hi ⊢)
  refine Qy (Qy (Qx fun K hK => ?_)); refine Qq J J J (QW J J J fG1 J (QK J J J J J lInt J (Qk ilss J J J J (Qv (hK _ _ (Qz ?_)))))); clear hK K; refine Q1 J (fun hlt => ?_) (fun hlt => ?_)
  · have e2 : (i : Int).toNat = i := Int.toNat_natCast i
    have hlt : i < rs.length := by omega
    have bd := wrR_bd rs i
    have hwr : wrR rs (i + 1) = if (rs.getD i rw0).b < 0 ∧ (wrR rs i < 0 ∨ (rs.getD i rw0).b < (rs.getD (wrR rs i).toNat rw0).b) then (i : Int) else wrR rs i := rfl
    generalize wrR rs i = W at *; refine Q0 (Qz (Qy (Q4 (Qy ?_)))); refine Xz mixed 23 (.p 0 (.p 1 (.p 2 (.p 3 (.f 4 (.p 5 (.p 6 (.p 7 (.p 8 (.p 9 (.p 10 (.p 11 (.p 12 (.p 13 (.p 15 (.p 16 (.p 17 (.p 18 (.f 14 (.f 19 (.p 20 (.p 21 (.p 22 .done))))))))))))))))))))))) (by kernel_rfl) (fun K hK => ?_); refine Qq J J J (Qq J J J (Qc J J J sRows (by omega) (ZQ (by omega) (by omega)) J ?_)); refine ZJ J J fR1 J (Ql J J J lInt J (Qk ilss J J J J (Qq J J J ?_))); rw [e2]; refine Qi 53 J (fun h1 => ?_) (fun h1 => ?_)
    · refine Qq J J J (Qk ilss J J J J (Qq J J J (Qi 56 J (fun h2 => ?_) (fun h2 => ?_))))
      · rw [if_pos ⟨h1, .inl h2⟩] at hwr; refine Qw J J J (Qw J J J (Qw J J J (Qw J J J (Qw J J J (Qw J J J (Qw J J J (Qw J J J (Qw J J J (Qw J J J (Qw J J J (Q6 J J J J (Q6 J J J J (Qv (hK _ _ (Qz (Xq J ?_)))))))))))))))); clear hK K; refine Qx (fun K hK => ?_); refine Qq J J J (Qj J J J (Qv (hK _ _ (Qz ?_)))); clear hK K; refine Qx (fun K hK => ?_); refine Qq J J J (Qk (iadd (by omega) (by omega)) J J J J ?_); refine Qj J J J (Qv (hK _ _ (Q7 ?_))); clear hK K; refine Qb (i + 1) (by omega) (by omega) (by refine QJ J ⟨rfl, rfl, rfl, rfl, rfl, rfl, by rw [hwr]; rfl, by simp only [Int.natCast_add]; rfl, trivial⟩)
      · obtain ⟨W', rfl⟩ := Int.eq_ofNat_of_zero_le (show 0 ≤ W by omega); have e3 : (W' : Int).toNat = W' := Int.toNat_natCast W'; rw [e3] at hwr; refine Qq J J J (Qq J J J (Qc J J J sRows (by omega) (ZQ (by omega) (by omega)) J ?_)); refine ZJ J J fR1 J (Qq J J J (Qq J J J (Qc J J J sRows (by omega) (ZQ (by omega) (by omega)) J ?_))); refine ZJ J J fR1 J (Ql J J J lInt J (Ql J J J lInt J (Qk ilss J J J J (Q2 J J J J (Q6 J J J J (Qv (hK _ _ (Qz ?_)))))))); clear hK K; rw [e2]; skip; rw [e3]; skip; refine Q1 J (fun h3 => ?_) (fun h3 => ?_)
        · rw [if_pos ⟨h1, .inr h3⟩] at hwr; refine Qx (fun K hK => ?_); refine Qq J J J (Qj J J J (Qv (hK _ _ (Qz ?_)))); clear hK K; refine Qx (fun K hK => ?_); refine Qq J J J (Qk (iadd (by omega) (by omega)) J J J J ?_); refine Qj J J J (Qv (hK _ _ (Q7 ?_))); clear hK K; refine Qb (i + 1) (by omega) (by omega) (by refine QJ J ⟨rfl, rfl, rfl, rfl, rfl, rfl, by rw [hwr]; rfl, by simp only [Int.natCast_add]; rfl, trivial⟩)
        · rw [if_neg (fun h => h.2.elim h2 h3)] at hwr; refine Q0 (Qz (Qx fun K hK => ?_)); refine Qq J J J (Qk (iadd (by omega) (by omega)) J J J J ?_); refine Qj J J J (Qv (hK _ _ (Q7 ?_))); clear hK K; refine Qb (i + 1) (by omega) (by omega) (by refine QJ J ⟨rfl, rfl, rfl, rfl, rfl, rfl, by rw [hwr]; rfl, by simp only [Int.natCast_add]; rfl, trivial⟩)
    · rw [if_neg (fun h => h1 h.1)] at hwr; refine Qw J J J (Qw J J J (Qw J J J (Qw J J J (Qw J J J (Qw J J J (Qw J J J (Qw J J J (Qw J J J (Qw J J J (Qw J J J (Qw J J J (Qw J J J (Qw J J J (Qw J J J (Q2 J J J J (Qv (hK _ _ (Qz (Qr J (Q0 (Qz ?_))))))))))))))))))))); clear hK K; refine Qx (fun K hK => ?_); refine Qq J J J (Qk (iadd (by omega) (by omega)) J J J J ?_); refine Qj J J J (Qv (hK _ _ (Q7 ?_))); clear hK K; refine Qb (i + 1) (by omega) (by omega) (by refine QJ J ⟨rfl, rfl, rfl, rfl, rfl, rfl, by rw [hwr]; rfl, by simp only [Int.natCast_add]; rfl, trivial⟩)
  · have hi' : i = rs.length := by omega
    subst hi'; refine Qm (Zj (Zj (Fin.blockE ?_))); exact XW hN () trivial (by exact QJ J ⟨rfl, rfl, rfl, rfl, rfl, rfl, trivial⟩)
end Go.Proofs.YtdhmbgogmoaofaaGreat
namespace Go.Proofs.YtdhmbgogmoaofaaGreat
open Go.Own Go.Limbs Go.Det
section
variable {N m : Nat} {D : Int} {X : Nat → Int} {c : List Int}
end
def Imp (rs rs' : List Rw) : Prop := ∀ r' ∈ rs', ∃ r ∈ rs, r.cs = r'.cs ∧ r.b ≤ r'.b
def CovR (rs rs' : List Rw) : Prop := ∀ r' ∈ rs', ∃ r ∈ rs, r.cs = r'.cs
end Go.Proofs.YtdhmbgogmoaofaaGreat
namespace Go.Proofs.YtdhmbgogmoaofaaGreat
open Go.Own Go.Limbs
attribute [local irreducible] St Ops Go.Own.Fin Ok OkB OkN OkM wpA
theorem okc_in {n : Int} {c : List Int} (cl : (c.length : Int) ≤ n) (h : ∀ y ∈ c, -1000 ≤ y ∧ y ≤ 1000) : okCoeffs n c = true := by
  have hc : c.any badC = false := by
    rw [List.any_eq_false]; intro y hy; have := h y hy; unfold badC; simp only [Bool.or_eq_true, decide_eq_true_eq]; omega
  unfold okCoeffs; rw [hc, decide_eq_true cl]; decide
theorem valid_dice {n : Int} {rs : List Rw} (h0 : 0 ≤ n) (h1 : n ≤ 4) (hl : rs.length ≤ 64) (h : ∀ r ∈ rs, RowIn n r) : validR n rs = true := by
  unfold validR; simp only [Bool.and_eq_true, decide_eq_true_eq, Bool.not_eq_true']; refine ⟨⟨⟨h0, by omega⟩, by omega⟩, ?_⟩; rw [List.any_eq_false]; intro r hr; obtain ⟨a1, a2, a3, a4⟩ := h r hr; unfold badR; rw [okc_in a1 (fun y hy => by have := a2 y hy; omega), decide_eq_false (show ¬ r.b < -4503599627370496 by omega), decide_eq_false (show ¬ 4503599627370496 < r.b by omega)]; decide
end Go.Proofs.YtdhmbgogmoaofaaGreat
namespace Go.Proofs.YtdhmbgogmoaofaaGreat
open Go.Own Go.Limbs
attribute [local irreducible] St Ops Go.Own.Fin Ok
structure Duo (m : Int) (p : List Rw) (q : List Int) (O1 O2 : Oc) (e : Int) : Prop where
  s1 : Ok Tryz.prog 22 [intC m, rowsC p, intsC q] (.fr (tupT [ocC O1, intC e]))
  s2 : Ok Tryz.prog 28 [intC m, rowsC p, intsC q] (.fr (tupT [ocC O2, intC e]))
  kind : O2.kind = O1.kind
  val : O2.value = O1.value
  v0 : O1.kind ≠ 1 → O1.value = frz0
  v1 : O1.kind = 1 → ∃ r : Rat, O1.value = ofQ r ∧ (limbs (ofQ r).num).length ≤ 9 ∧ (limbs (ofQ r).den).length ≤ 9
  chk : e = 0 → Ok Tryz.prog 23 [intC m, rowsC p, intsC q, ocC O1] (boolC true)
  ok : (validR m p && okCoeffs m q) = true → e = 0
  no : (validR m p && okCoeffs m q) = false → e = 1 ∧ O1 = oc0
  k1 : O1.kind = 1 → e = 0
attribute [local irreducible] OkB OkM OkN wpA
def LpInH (q : Lp × Value) : Prop := LpIn q.1 ∧ q.2.oneCell' = true
attribute [local irreducible] tf
def wider (r : Rw) (m : Int) : Rw := ⟨r.cs, min (r.b + m) 4503599627370496⟩
theorem sRowss : SlcT Tryz.prog 60 23 1 24 (.slice none 0 0) := SlcT.of Tryz.underlying60 (by kernel_rfl) rfl (by decide)
theorem sIntss4 : SlcT Tryz.prog 35 24 1 24 (.slice none 0 0) := SlcT.of Tryz.underlying35 (by kernel_rfl) rfl (by decide)
theorem lRows4 : Ld1 Tryz.prog 23 := Ld1.of _ Tryz.underlying23 rfl
end Go.Proofs.YtdhmbgogmoaofaaGreat
