/- The proof that LossNear holds for every input, without conditions: part 4 of 5. -/
import Derived.Test.YtlkdkbdgnjcopaaGreatZ3
namespace Go.Proofs.YtlkdkbdgnjcopaaGreat
open Go.Own Go.Limbs
attribute [local irreducible] Go.Own.Fin Ok OkB OkF OkL OkN OkT Ops St
attribute [local irreducible] OkM
theorem goway : InGo Tryz.prog 46 := InGo.of Tryz.func46 rfl (by decide)
theorem wayF_eq (l : List Rs) (r : Rs) : wayF l r = if usR r = false then [] else if r.tt ≤ ((pathF (ofF l (trOf r)) r.fl).length : Int) then wiresG 0 ((pathF (ofF l (trOf r)) r.fl).take r.tt.toNat) true
    else if ((pathF (ofF l (trOf r)) r.fl).length : Int) < r.tt - 1 ∨ r.an = true then [] else wiresG 0 (pathF (ofF l (trOf r)) r.fl) true := rfl
theorem knOk_ins {l : List Rs} {m : KnM} (h : knOk l m) (s : Stm) : knOk l (ins m s (pathF (ofF l s.1) s.2)) := fun x p hx => by
  rw [Xr] at hx
  split at hx
  · rename_i e; subst e; injection hx with hx; exact hx.symm
  · exact h x p hx
def prv (p : List (_root_.Fin 4294967296)) (i : Nat) : _root_.Fin 4294967296 := if i = 0 then 0 else p.getD (i - 1) 0
theorem wiresG_step {p : List (_root_.Fin 4294967296)} {i : Nat} (h : i < p.length) : wiresG (prv p i) (p.drop i) (decide (i = 0)) =
    (if p.getD i 0 ≠ 0 ∧ (i = 0 ∨ prv p i ≠ 0) then [(prv p i, p.getD i 0)] else []) ++ wiresG (prv p (i + 1)) (p.drop (i + 1)) (decide (i + 1 = 0)) := by
  have e : p.drop i = p.getD i 0 :: p.drop (i + 1) := by
    rw [List.drop_eq_getElem_cons h]; simp [List.getD_eq_getElem?_getD, List.getElem?_eq_getElem h]
  have e2 : prv p (i + 1) = p.getD i 0 := by unfold prv; rw [if_neg (by omega)]; rfl
  rw [e, e2]
  show (if p.getD i 0 ≠ 0 ∧ (decide (i = 0) = true ∨ prv p i ≠ 0) then [(prv p i, p.getD i 0)] else []) ++ _ = _
  simp only [decide_eq_true_eq]
  rfl
theorem pathF_len (l : List Rs) (fl : Int) : (pathF l fl).length ≤ 256 := pathG_len _ _ _ _
set_option maxHeartbeats 8000000 in
theorem Way_ok (l : List Rs) (hl : l.length ≤ 10000) (v : Value) (hv : v.oneCell' = true) (r : Rs) (al : KnM) (hal : knOk l al) :
    OkM Tryz.prog 46 [.ct (travC (owF l) v), .ct (rsC r)] [(8, .mpx v (knM al))] [] (fun m : KnM => knOk l m) (fun _ => .ct (wrsC (wayF l r))) (fun m => [(8, .mpx v (knM m))]) := by
  have hU := Usable_ok r
  have hTt : usR r = true → 1 ≤ r.tt ∧ r.tt ≤ 255 := usR_tt
  have hW := wayF_eq l r
  have hLo := owF_look l (trOf r)
  have hof : (ofF l (trOf r)).length ≤ 10000 := by
    have h1 := sd_len cmpR (l.filter okR)
    have h2 := List.length_filter_le okR l
    have h3 := List.length_filter_le (fun x => decide (trOf x = trOf r)) (sd cmpR (l.filter okR))
    unfold ofF; omega
  have hP := Path_ok (ofF l (trOf r)) r.fl (by omega)
  have hpl := pathF_len (ofF l (trOf r)) r.fl
  have hkn := fun m (h : knOk l m) => knOk_ins h (trOf r, r.fl)
  have hal' := fun p => hal (trOf r, r.fl) p
  dsimp only at hkn hal'
  generalize owF l = om at hLo ⊢
  generalize wayF l r = W at hW ⊢
  generalize pathF (ofF l (trOf r)) r.fl = p at hW hP hpl hkn hal'
  generalize usR r = ub at hU hTt hW
  rw [← hLo] at hP
  refine OkM.enter Tryz.func46 rfl _ Tryz.ntmps46 rfl (fun i hi => by cases hi) ?_
  intro S w ρ0 hbor
  refine Qw ?_
  refine Qx (fun K hK => ?_)
  refine Xk 0 rfl rfl rfl (by show (true && (Value.oneCell' v && true)) = true; rw [hv]; rfl) rfl rfl rfl ?_
  (refine Xk 1 rfl rfl rfl rfl rfl rfl rfl ?_; refine Qv rfl rfl rfl ?_; refine Qj (hK _ _ (Qz (Qw (Qw ?_)))); clear hK K; refine Qx (fun K hK => ?_); refine Qa (n := 17) rfl rfl rfl rfl rfl (by with_reducible exact lRes) rfl ?_)
  refine QW goUsable hU rfl rfl rfl rfl ?_
  (refine Qp rfl rfl rfl ?_; refine Qj (hK _ _ (Qz ?_)); clear hK K)
  refine XX rfl (fun h => ?_) (fun h => ?_)
  · have h : ub = false := by simpa using h
    rw [if_pos h] at hW
    (refine Qw (Qx fun K hK => ?_); refine Qv rfl rfl rfl ?_; refine Qj (hK _ _ (Qz (Q0 (QY ?_)))); clear hK K)
    refine Fin.retMC [1, 0] al [_] rfl (X4 Z9 (QQ rfl QX)) (by rw [hW]; rfl) rfl (fun _ => rfl) hal
  have h : ub = true := by simpa using h
  rw [if_neg (by rw [h]; decide)] at hW
  obtain ⟨ht1, ht2⟩ := hTt h
  clear hTt hU
  (refine Q1 (Qz (Qw ?_)))
  refine ZV (α := Unit) (fun _ => True) (fun _ => [(2, .own 0), (3, .own 1), (5, .own 2)])
    (fun _ => [(2, .box 145 (stmCs (trOf r, r.fl))), (1, .box 35 (rsCs r)), (0, .box 94 [.fr (mapT (owM om)), .ex v]), (8, .mpx v (knM al))]) (fun _ _ => ?_) (fun KN hM => ?_)
  rotate_left
  · refine Xu (by with_reducible exact mixed) 6 (.p 2 (.f 0 (.f 3 (.fork 1 (.p 4 (.m 5 (.a 6 .done))) 5 (.m 1 (.p 4 (.a 6 .done))))))) (by kernel_rfl) (fun K hK => ?_)
    (refine QV rfl rfl rfl (by with_reducible first | exact fS0 | exact fS1 | exact fS2 | exact fS3 | exact fS4 | exact fS5 | exact fS6 | exact fS7 | exact fS8 | exact fS9 | exact fS10 | exact fS11 | exact fN0 | exact fN1 | exact fN2 | exact fN3 | exact fN4 | exact fN5) rfl ?_; refine Qa (n := 17) rfl rfl rfl rfl rfl (by with_reducible exact lRes) rfl ?_; refine QJ rfl rfl rfl rfl rfl (by with_reducible first | exact lInt | exact Q9 | exact Q6 | exact lRess) rfl ?_)
    refine Ops.fork ?_ ?_
    · refine QW goTraceOf (TraceOf_ok r) rfl rfl rfl rfl ?_
      refine Xq rfl (by with_reducible exact bStm) rfl (.agg rfl rfl rfl rfl (.one rfl rfl rfl rfl .nil)) rfl ?_
      (refine Qh 2 rfl rfl (by with_reducible first | exact zvStm | exact zvCn) rfl rfl rfl ?_; refine Qe 4 rfl rfl rfl rfl rfl (by with_reducible exact szStm) rfl rfl ?_; refine Qj (hK _ _ ?_); clear hK K)
      exact Qt hM () trivial (Qu rfl ⟨rfl, rfl, rfl, trivial⟩)
    · (refine Qh 2 rfl rfl (by with_reducible first | exact zvStm | exact zvCn) rfl rfl rfl ?_)
      refine QW goTraceOf (TraceOf_ok r) rfl rfl rfl rfl ?_
      refine Xq rfl (by with_reducible exact bStm) rfl (.agg rfl rfl rfl rfl (.one rfl rfl rfl rfl .nil)) rfl ?_
      (refine Qe 4 rfl rfl rfl rfl rfl (by with_reducible exact szStm) rfl rfl ?_; refine Qj (hK _ _ ?_); clear hK K)
      exact Qt hM () trivial (Qu rfl ⟨rfl, rfl, rfl, trivial⟩)
  (refine Qw (Qx fun K hK => ?_); refine QV rfl rfl rfl (by with_reducible first | exact fTk0 | exact fTk1 | exact fTk2 | exact fWr0 | exact fWr1 | exact X0 | exact XK | exact Xl | exact fStm1 | exact fCn0 | exact fCn1 | exact fCn2 | exact fCn3 | exact fCs0 | exact fCs1) rfl ?_; refine QJ rfl rfl rfl rfl rfl (by with_reducible first | exact lMOwn | exact lMKnown) rfl ?_; refine Qa (n := 4) rfl rfl rfl rfl rfl (by with_reducible exact lStm) rfl ?_)
  refine Ops.lookM2 (i := 8) (cv := adsC) (enc := stmE) [] (trOf r, r.fl) rfl rfl rfl rfl (KeyIs.agg (us := stmV (trOf r, r.fl)) rfl) uMKnown z0Ads (fun S w => Z9 S w _ rfl) keyStm rfl ?_
  generalize look1 al (trOf r, r.fl) = lk at hal'
  refine Qq rfl rfl rfl ?_
  refine Qf rfl rfl rfl rfl ?_
  refine Qf rfl rfl rfl rfl ?_
  refine Qv rfl rfl rfl ?_
  refine Qv rfl rfl rfl ?_
  refine Qj (hK _ _ ?_)
  clear hK K
  refine Qz ?_
  refine Qw ?_
  refine ZV (α := KnM) (fun m => knOk l m) (fun _ => [(2, .own 0), (3, .own 1), (5, .own 2), (6, .ct (adsC p))])
    (fun m => [(2, .box 145 (stmCs (trOf r, r.fl))), (1, .box 35 (rsCs r)), (0, .box 94 [.fr (mapT (owM om)), .ex v]), (8, .mpx v (knM m))]) (fun m hm => ?_) (fun KN hM => ?_)
  rotate_left
  · (refine Qw (Qx fun K hK => ?_); refine Qq rfl rfl rfl ?_; refine Qp rfl rfl rfl ?_; refine Qj (hK _ _ (Qz ?_)); clear hK K)
    refine XX rfl (fun h2 => ?_) (fun h2 => ?_)
    · (refine Qw ?_)
      refine Xu (by with_reducible exact mixed) 9 (.p 0 (.p 2 (.p 5 (.f 1 (.f 3 (.f 4 (.f 6 (.m 7 (.p 8 .done))))))))) (by kernel_rfl) (fun K hK => ?_)
      (refine QV rfl rfl rfl (by with_reducible first | exact fTk0 | exact fTk1 | exact fTk2 | exact fWr0 | exact fWr1 | exact X0 | exact XK | exact Xl | exact fStm1 | exact fCn0 | exact fCn1 | exact fCn2 | exact fCn3 | exact fCs0 | exact fCs1) rfl ?_; refine QV rfl rfl rfl (by with_reducible first | exact fTk0 | exact fTk1 | exact fTk2 | exact fWr0 | exact fWr1 | exact X0 | exact XK | exact Xl | exact fStm1 | exact fCn0 | exact fCn1 | exact fCn2 | exact fCn3 | exact fCs0 | exact fCs1) rfl ?_; refine QV rfl rfl rfl (by with_reducible first | exact fS0 | exact fS1 | exact fS2 | exact fS3 | exact fS4 | exact fS5 | exact fS6 | exact fS7 | exact fS8 | exact fS9 | exact fS10 | exact fS11 | exact fN0 | exact fN1 | exact fN2 | exact fN3 | exact fN4 | exact fN5) rfl ?_; refine QJ rfl rfl rfl rfl rfl (by with_reducible first | exact lMOwn | exact lMKnown) rfl ?_)
      refine Ops.ldNA (n := 3) rfl rfl rfl rfl (Nat.le_of_ble_eq_true rfl) (by with_reducible exact Z4) rfl ?_
      refine Ops.lookF (enc := tkE) (cv := rssC) [] (trOf r) rfl rfl rfl (KeyIs.agg (us := tkVs (trOf r)) rfl) uMOwn z0Rss (fun S w => Z9 S w _ rfl) keyTk rfl ?_
      (refine QJ rfl rfl rfl rfl rfl (by with_reducible first | exact lInt | exact Q9 | exact Q6 | exact lRess) rfl ?_)
      refine Z2 3 goPath hP rfl rfl rfl rfl rfl rfl ?_
      refine ZJ 3 _ rfl (adrs_frozen _ _) hbor ?_
      (refine Qv rfl rfl rfl ?_; refine Qj (hK _ _ (Qz ?_)); clear hK K; refine Qx (fun K hK => ?_); refine QV rfl rfl rfl (by with_reducible first | exact fTk0 | exact fTk1 | exact fTk2 | exact fWr0 | exact fWr1 | exact X0 | exact XK | exact Xl | exact fStm1 | exact fCn0 | exact fCn1 | exact fCn2 | exact fCn3 | exact fCs0 | exact fCs1) rfl ?_; refine QJ rfl rfl rfl rfl rfl (by with_reducible first | exact lMOwn | exact lMKnown) rfl ?_; refine Qa (n := 4) rfl rfl rfl rfl rfl (by with_reducible exact lStm) rfl ?_; refine Qq rfl rfl rfl ?_)
      refine Xv (i := 8) (enc := stmE) (cv := adsC) (trOf r, r.fl) p rfl rfl rfl (KeyIs.agg (us := stmV (trOf r, r.fl)) rfl) rfl uMKnown keyStm ?_
      (refine Qj (hK _ _ ?_); clear hK K)
      exact Qt hM _ (hkn al hal) (Qu rfl ⟨rfl, rfl, rfl, rfl, trivial⟩)
    · cases lk with
      | none => cases h2
      | some p' =>
        rw [← hal' p' rfl] at hM
        (refine Q1 ?_)
        exact Qt hM al hal (Qu rfl ⟨rfl, rfl, rfl, rfl, trivial⟩)
  refine Qw ?_
  refine St.cutR (α := List (_root_.Fin 4294967296)) (fun p' => W = wiresG 0 p' true ∧ p'.length ≤ 256) (fun p' => [(2, .own 0), (3, .own 1), (6, .ct (adsC p'))])
    (fun _ => [(2, .box 145 (stmCs (trOf r, r.fl))), (1, .box 35 (rsCs r)), (0, .box 94 [.fr (mapT (owM om)), .ex v]), (8, .mpx v (knM m))]) (fun p' hp' => ?_) (fun KN hM hR => ?_)
  rotate_left
  · (refine Q4 (Qw (Qx fun K hK => ?_)); refine Qq rfl rfl rfl ?_; refine Qd rfl rfl (by with_reducible first | exact sTks.und | exact sWrs.und | exact sIks.und | exact sAdrs.und) (List.length_map ..) rfl ?_; refine QV rfl rfl rfl (by with_reducible first | exact fS0 | exact fS1 | exact fS2 | exact fS3 | exact fS4 | exact fS5 | exact fS6 | exact fS7 | exact fS8 | exact fS9 | exact fS10 | exact fS11 | exact fN0 | exact fN1 | exact fN2 | exact fN3 | exact fN4 | exact fN5) rfl ?_; refine QJ rfl rfl rfl rfl rfl (by with_reducible first | exact lInt | exact Q9 | exact Q6 | exact lRess) rfl ?_; refine Qk igeq rfl rfl rfl rfl ?_; refine Qv rfl rfl rfl ?_; refine Qj (hK _ _ (Qz ?_)); clear hK K)
    refine Q2 rfl (fun h2 => ?_) (fun h2 => ?_)
    · rw [if_pos h2] at hW
      (refine Qx (fun K hK => ?_); refine Qq rfl rfl rfl ?_; refine QV rfl rfl rfl (by with_reducible first | exact fS0 | exact fS1 | exact fS2 | exact fS3 | exact fS4 | exact fS5 | exact fS6 | exact fS7 | exact fS8 | exact fS9 | exact fS10 | exact fS11 | exact fN0 | exact fN1 | exact fN2 | exact fN3 | exact fN4 | exact fN5) rfl ?_; refine QJ rfl rfl rfl rfl rfl (by with_reducible first | exact lInt | exact Q9 | exact Q6 | exact lRess) rfl ?_)
      refine Ops.cutHi rfl rfl rfl (by with_reducible exact sAdrs) (by omega) (by rw [List.length_map]; omega) rfl ?_
      rw [← List.map_take]
      (refine Qv rfl rfl rfl ?_; refine Qj (hK _ _ (Qb ?_)); clear hK K)
      exact Qt hM (p.take r.tt.toNat) ⟨hW, by rw [List.length_take]; omega⟩ (Qu rfl ⟨rfl, rfl, rfl, trivial⟩)
    rw [if_neg h2] at hW
    (refine Qw (Qx fun K hK => ?_); refine Qq rfl rfl rfl ?_; refine Qd rfl rfl (by with_reducible first | exact sTks.und | exact sWrs.und | exact sIks.und | exact sAdrs.und) (List.length_map ..) rfl ?_; refine QV rfl rfl rfl (by with_reducible first | exact fS0 | exact fS1 | exact fS2 | exact fS3 | exact fS4 | exact fS5 | exact fS6 | exact fS7 | exact fS8 | exact fS9 | exact fS10 | exact fS11 | exact fN0 | exact fN1 | exact fN2 | exact fN3 | exact fN4 | exact fN5) rfl ?_; refine QJ rfl rfl rfl rfl rfl (by with_reducible first | exact lInt | exact Q9 | exact Q6 | exact lRess) rfl ?_; refine Qk (isub (by omega) (by omega)) rfl rfl rfl rfl ?_; refine Qk ilss rfl rfl rfl rfl ?_; refine Qq rfl rfl rfl ?_)
    refine Q5 58 rfl (fun h3 => ?_) (fun h3 => ?_)
    · rw [if_pos (Or.inl h3)] at hW
      (refine Qy rfl rfl rfl ?_; refine Qy rfl rfl rfl ?_; refine QZ rfl rfl rfl rfl ?_; refine Qv rfl rfl rfl ?_; refine Qj (hK _ _ (Qz (Qo rfl (Qw ?_)))); clear hK K; refine Qx (fun K hK => ?_); refine Qv rfl rfl rfl ?_; refine Qj (hK _ _ (Qz (Q0 (Q8 ?_)))); clear hK K)
      exact Fin.up hR (Fin.retMC [2, 1, 0] m [_] rfl (X4 Z9 (QQ rfl QX)) (by rw [hW]; rfl) rfl (fun _ => rfl) hm)
    · (refine QV rfl rfl rfl (by with_reducible first | exact fS0 | exact fS1 | exact fS2 | exact fS3 | exact fS4 | exact fS5 | exact fS6 | exact fS7 | exact fS8 | exact fS9 | exact fS10 | exact fS11 | exact fN0 | exact fN1 | exact fN2 | exact fN3 | exact fN4 | exact fN5) rfl ?_; refine QJ rfl rfl rfl rfl rfl (by with_reducible first | exact lInt | exact Q9 | exact Q6 | exact lRess) rfl ?_; refine QK rfl rfl rfl rfl ?_; refine Qv rfl rfl rfl ?_; refine Qj (hK _ _ (Qz ?_)); clear hK K)
      refine XX rfl (fun h4 => ?_) (fun h4 => ?_)
      · rw [if_pos (Or.inr h4)] at hW
        (refine Qw (Qx fun K hK => ?_); refine Qv rfl rfl rfl ?_; refine Qj (hK _ _ (Qz (Q0 (Q8 ?_)))); clear hK K)
        exact Fin.up hR (Fin.retMC [2, 1, 0] m [_] rfl (X4 Z9 (QQ rfl QX)) (by rw [hW]; rfl) rfl (fun _ => rfl) hm)
      · rw [if_neg (fun h => h.elim h3 (fun h => by rw [h4] at h; cases h))] at hW
        (refine Q1 (Qb ?_))
        exact Qt hM p ⟨hW, hpl⟩ (Qu rfl ⟨rfl, rfl, rfl, trivial⟩)
  obtain ⟨hW', hpl'⟩ := hp'
  clear hW hpl hkn hP hal' hLo hof
  (refine Qw (Qx fun K hK => ?_); refine Qv rfl rfl rfl ?_; refine Qj (hK _ _ (Qz (Qw (Qw ?_)))); clear hK K; refine Qx (fun K hK => ?_); refine Qq rfl rfl rfl ?_; refine Qd rfl rfl (by with_reducible first | exact sTks.und | exact sWrs.und | exact sIks.und | exact sAdrs.und) (List.length_map ..) rfl ?_; refine Qq rfl rfl rfl ?_; refine Qj (hK _ _ (Qz (Q4 ?_))); clear hK K)
  refine Xf 8 4 37 2 rfl rfl rfl ?_
  refine Xz (α := Nat × List Wr) (fun q => q.1 ≤ p'.length ∧ q.2.length ≤ q.1 ∧ wiresG 0 p' true = q.2 ++ wiresG (prv p' q.1) (p'.drop q.1) (decide (q.1 = 0)))
    (fun q => [(3, .own 1), (6, .ct (adsC p')), (8, .own 4), (62, .ct (adsC p')), (63, .ct (intC p'.length)), (64, .ct (intC q.1))])
    (fun q => [(4, .row 37 2 (wrs q.2)), (2, .box 145 (stmCs (trOf r, r.fl))), (1, .box 35 (rsCs r)), (0, .box 94 [.fr (mapT (owM om)), .ex v]), (8, .mpx v (knM m))])
    (fun q => p'.length - q.1) (0, []) ⟨Nat.zero_le _, Nat.zero_le _, rfl⟩ (by exact Qu rfl ⟨rfl, rfl, rfl, rfl, rfl, rfl, trivial⟩) ?_
  intro ⟨i, out⟩ ⟨hi, hol, hq⟩
  try dsimp only at hi hol hq ⊢
  (refine Qw (Qx fun K hK => ?_); refine Qk ilss rfl rfl rfl rfl ?_; refine Qj (hK _ _ (Qz (Qw ?_))); clear hK K)
  refine Q2 rfl (fun h => ?_) (fun h => ?_)
  · have e2 : (i : Int).toNat = i := Int.toNat_natCast i
    rw [wiresG_step (by omega)] at hq
    (refine Q1 (Qz (Qw (Q4 (Qw (Qx fun K hK => ?_))))); refine Qq rfl rfl rfl ?_)
    refine Qg rfl rfl rfl (by with_reducible exact sAdrs) (by omega) (adrs_at (by omega) (by omega)) rfl ?_
    rw [e2]
    refine Xy rfl rfl rfl (by with_reducible exact Q9) rfl ?_
    generalize p'.getD i 0 = a at hq
    refine Qv rfl rfl rfl ?_
    refine Qv rfl rfl rfl ?_
    refine Qj (hK _ _ ?_)
    clear hK K
    refine Qz ?_
    refine Qw ?_
    refine Qx (fun K hK => ?_)
    refine Qv rfl rfl rfl ?_
    refine Qj (hK _ _ ?_)
    clear hK K
    refine Qz ?_
    refine Qw ?_
    refine ZV (α := Unit) (fun _ => True) (fun _ => [(3, .own 1), (6, .ct (adsC p')), (8, .own 4), (9, .ct (intC i)), (10, .ct (adrF a)), (11, .ct (adrF (prv p' i))), (62, .ct (adsC p')), (63, .ct (intC p'.length)), (64, .ct (intC i))])
      (fun _ => [(4, .row 37 2 (wrs out)), (2, .box 145 (stmCs (trOf r, r.fl))), (1, .box 35 (rsCs r)), (0, .box 94 [.fr (mapT (owM om)), .ex v]), (8, .mpx v (knM m))]) (fun _ _ => ?_) (fun KN hM => ?_)
    rotate_left
    · (refine Qw (Qx fun K hK => ?_); refine Qq rfl rfl rfl ?_; refine Qk igtr rfl rfl rfl rfl ?_; refine Qj (hK _ _ (Qz ?_)); clear hK K)
      refine Q2 rfl (fun h2 => ?_) (fun h2 => ?_)
      · have e3 : ((i : Int) - 1).toNat = i - 1 := by omega
        have e4 : prv p' i = p'.getD (i - 1) 0 := if_neg (by omega)
        rw [e4] at hM
        (refine Qx (fun K hK => ?_); refine Qq rfl rfl rfl ?_; refine Qq rfl rfl rfl ?_; refine Qk (isub (by omega) (by omega)) rfl rfl rfl rfl ?_)
        refine Qg rfl rfl rfl (by with_reducible exact sAdrs) (by omega) (adrs_at (by omega) (by omega)) rfl ?_
        rw [e3]
        refine Xy rfl rfl rfl (by with_reducible exact Q9) rfl ?_
        (refine Qv rfl rfl rfl ?_; refine Qj (hK _ _ ?_); clear hK K)
        exact Qt hM () trivial (Qu rfl ⟨rfl, rfl, rfl, rfl, rfl, rfl, rfl, rfl, rfl, trivial⟩)
      · have e4 : prv p' i = 0 := if_pos (by omega)
        rw [e4] at hM
        (refine Q1 ?_)
        exact Qt hM () trivial (Qu rfl ⟨rfl, rfl, rfl, rfl, rfl, rfl, rfl, rfl, rfl, trivial⟩)
    generalize prv p' i = f at hq
    (refine Qw (Qx fun K hK => ?_); refine Qq rfl rfl rfl ?_; refine Qk ineq rfl rfl rfl rfl ?_; refine Qq rfl rfl rfl ?_)
    have ez : ∀ x : _root_.Fin 4294967296, ((x.val : Int) ≠ 0) ↔ x ≠ 0 := fun x => ⟨fun h e => h (by rw [e]; rfl), fun h e => h (Fin.ext (by have e0 : ((0 : _root_.Fin 4294967296).val) = 0 := rfl; omega))⟩
    refine Q5 78 rfl (fun h1 => ?_) (fun h1 => ?_)
    · have h1 := (ez a).1 h1
      (refine Qq rfl rfl rfl ?_; refine Qk ieql rfl rfl rfl rfl ?_; refine Qq rfl rfl rfl ?_)
      refine Q5 81 rfl (fun h2 => ?_) (fun h2 => ?_)
      · (refine Qy rfl rfl rfl ?_; refine Qy rfl rfl rfl ?_; refine QZ rfl rfl rfl rfl ?_; refine QZ rfl rfl rfl rfl ?_; refine Qj (hK _ _ (Qz (Qo rfl ?_))); clear hK K; refine Qx (fun K hK => ?_); refine Qq rfl rfl rfl ?_; refine Qq rfl rfl rfl ?_; refine Qq rfl rfl rfl ?_)
        refine Xq rfl (by with_reducible exact bWire) rfl (.one rfl rfl rfl rfl (.one rfl rfl rfl rfl .nil)) rfl ?_
        refine X6 (n := 2) rfl rfl (by with_reducible exact sWrs) rfl rfl (by decide) rfl ?_
        refine Qs out.length (wrs (out ++ [(f, a)])) rfl rfl rfl rfl (by with_reducible exact sWrs) (wrs_len out) rfl (by omega) (by omega) (wrs_snoc out (f, a)) rfl ?_
        (refine Qv rfl rfl rfl ?_; refine Qj (hK _ _ (Qz ?_)); clear hK K; refine Qx (fun K hK => ?_); refine Qk (iadd (by omega) (by omega)) rfl rfl rfl rfl ?_; refine Qq rfl rfl rfl ?_; refine Qj (hK _ _ (Q3 ?_)); clear hK K)
        refine Q7 (i + 1, out ++ [(f, a)]) (by dsimp only; omega) ⟨by dsimp only; omega, by simp only [List.length_append, List.length_singleton]; omega, by rw [hq, if_pos (⟨h1, .inl (by omega)⟩ : a ≠ 0 ∧ (i = 0 ∨ f ≠ 0)), List.append_assoc]⟩ (by exact Qu rfl ⟨rfl, rfl, rfl, rfl, rfl, by simp only [Int.natCast_add]; rfl, trivial⟩)
      · (refine Qq rfl rfl rfl ?_; refine Qk ineq rfl rfl rfl rfl ?_; refine QK rfl rfl rfl rfl ?_; refine QZ rfl rfl rfl rfl ?_; refine Qj (hK _ _ (Qz ?_)); clear hK K)
        refine Q2 rfl (fun h3 => ?_) (fun h3 => ?_)
        · (refine Qx (fun K hK => ?_); refine Qq rfl rfl rfl ?_; refine Qq rfl rfl rfl ?_; refine Qq rfl rfl rfl ?_)
          refine Xq rfl (by with_reducible exact bWire) rfl (.one rfl rfl rfl rfl (.one rfl rfl rfl rfl .nil)) rfl ?_
          refine X6 (n := 2) rfl rfl (by with_reducible exact sWrs) rfl rfl (by decide) rfl ?_
          refine Qs out.length (wrs (out ++ [(f, a)])) rfl rfl rfl rfl (by with_reducible exact sWrs) (wrs_len out) rfl (by omega) (by omega) (wrs_snoc out (f, a)) rfl ?_
          (refine Qv rfl rfl rfl ?_; refine Qj (hK _ _ (Qz ?_)); clear hK K; refine Qx (fun K hK => ?_); refine Qk (iadd (by omega) (by omega)) rfl rfl rfl rfl ?_; refine Qq rfl rfl rfl ?_; refine Qj (hK _ _ (Q3 ?_)); clear hK K)
          refine Q7 (i + 1, out ++ [(f, a)]) (by dsimp only; omega) ⟨by dsimp only; omega, by simp only [List.length_append, List.length_singleton]; omega, by rw [hq, if_pos (⟨h1, .inr ((ez f).1 h3)⟩ : a ≠ 0 ∧ (i = 0 ∨ f ≠ 0)), List.append_assoc]⟩ (by exact Qu rfl ⟨rfl, rfl, rfl, rfl, rfl, by simp only [Int.natCast_add]; rfl, trivial⟩)
        · (refine Q1 (Qz (Qx fun K hK => ?_)); refine Qk (iadd (by omega) (by omega)) rfl rfl rfl rfl ?_; refine Qq rfl rfl rfl ?_; refine Qj (hK _ _ (Q3 ?_)); clear hK K)
          refine Q7 (i + 1, out) (by dsimp only; omega) ⟨by dsimp only; omega, by dsimp only; omega, by rw [hq, if_neg (fun h => h.2.elim (fun e => h2 (by omega)) (fun e => h3 ((ez f).2 e)) : ¬ (a ≠ 0 ∧ (i = 0 ∨ f ≠ 0))), List.nil_append]⟩ (by exact Qu rfl ⟨rfl, rfl, rfl, rfl, rfl, by simp only [Int.natCast_add]; rfl, trivial⟩)
    · (refine Qy rfl rfl rfl ?_; refine Qy rfl rfl rfl ?_; refine Qy rfl rfl rfl ?_; refine Qy rfl rfl rfl ?_; refine Qy rfl rfl rfl ?_; refine Qy rfl rfl rfl ?_; refine QK rfl rfl rfl rfl ?_; refine Qj (hK _ _ (Qz (Xx rfl (Q1 (Qz ?_))))); clear hK K; refine Qx (fun K hK => ?_); refine Qk (iadd (by omega) (by omega)) rfl rfl rfl rfl ?_; refine Qq rfl rfl rfl ?_; refine Qj (hK _ _ (Q3 ?_)); clear hK K)
      refine Q7 (i + 1, out) (by dsimp only; omega) ⟨by dsimp only; omega, by dsimp only; omega, by rw [hq, if_neg (fun h => h1 ((ez a).2 h.1) : ¬ (a ≠ 0 ∧ (i = 0 ∨ f ≠ 0))), List.nil_append]⟩ (by exact Qu rfl ⟨rfl, rfl, rfl, rfl, rfl, by simp only [Int.natCast_add]; rfl, trivial⟩)
  · have hi' : i = p'.length := by omega
    rw [hi', List.drop_length] at hq
    have hq : wiresG 0 p' true = out := by rw [hq]; exact List.append_nil _
    rw [hq] at hW'
    (refine Qn (Qz (Qw (Qx fun K hK => ?_))); refine Qq rfl rfl rfl ?_; refine Qv rfl rfl rfl ?_; refine Qj (hK _ _ (Qz (Q0 ?_))); clear hK K)
    refine Fin.freeze 4 _ rfl (wrs_frozen _ _) hbor ?_
    exact Fin.retMC [2, 1, 0] m [_] rfl (QQ rfl QX) (by rw [hW']; rfl) rfl (fun _ => rfl) hm
end Go.Proofs.YtlkdkbdgnjcopaaGreat
namespace Go.Proofs.YtlkdkbdgnjcopaaGreat
open Go.Own Go.Limbs
def kS (fl tt : Int) (s : Fin 4294967296 × Int) (r : Rs) : Fin 4294967296 × Int :=
  if usR r = false ∨ ¬ r.fl = fl ∨ ¬ r.tt = tt then s
  else if r.an = false then (s.1, max s.2 1)
  else if s.2 ≤ 1 then (r.fr, 2)
  else if s.2 = 2 ∧ s.1 ≠ r.fr then (0, 3) else s
abbrev spV (m : AdM × StM) (fl tt : Int) : Fin 4294967296 × Int := ((look1 m.1 (fl, tt)).getD 0, (look1 m.2 (fl, tt)).getD 0)
theorem look_step (e fl tt : Int) (h : ¬ (0 < e ∧ e < tt)) (m : AdM × StM) (r : Rs) : spV (lookS e m r) fl tt = kS fl tt (spV m fl tt) r := by
  unfold lookS kS
  by_cases hu : usR r = false
  · rw [if_pos (.inl hu), if_pos (.inl hu)]
  by_cases h1 : r.fl = fl ∧ r.tt = tt
  · obtain ⟨h1, h2⟩ := h1
    subst h1; subst h2
    rw [if_neg (show ¬ (usR r = false ∨ (0 < e ∧ e < r.tt)) from fun x => x.elim hu h), if_neg (show ¬ (usR r = false ∨ ¬ r.fl = r.fl ∨ ¬ r.tt = r.tt) from fun x => x.elim hu (fun x => x.elim (fun y => y rfl) (fun y => y rfl)))]
    by_cases ha : r.an = false
    · rw [if_pos ha, if_pos ha]; simp only [spV, Xr, if_pos, Option.getD_some]
    rw [if_neg ha, if_neg ha]
    by_cases hb : (look1 m.2 (r.fl, r.tt)).getD 0 ≤ 1
    · rw [if_pos hb, if_pos hb]; simp only [spV, Xr, if_pos, Option.getD_some]
    rw [if_neg hb, if_neg hb]
    by_cases hc : (look1 m.2 (r.fl, r.tt)).getD 0 = 2 ∧ (look1 m.1 (r.fl, r.tt)).getD 0 ≠ r.fr
    · rw [if_pos hc, if_pos hc]; simp only [spV, Xr, if_pos, Option.getD_some]
    · rw [if_neg hc, if_neg hc]
  · have hne : (fl, tt) ≠ (r.fl, r.tt) := fun x => h1 (by injection x with a b; exact ⟨a.symm, b.symm⟩)
    rw [if_pos (show usR r = false ∨ ¬ r.fl = fl ∨ ¬ r.tt = tt from .inr (by
      by_cases x : r.fl = fl
      · exact .inr (fun y => h1 ⟨x, y⟩)
      · exact .inl x))]
    have q1 : ∀ {β : Type} (m : List (Sp × β)) (b : β), look1 (ins m (r.fl, r.tt) b) (fl, tt) = look1 m (fl, tt) := fun m b => by rw [Xr, if_neg hne]
    split
    · rfl
    · split
      · simp only [spV, q1]
      · split
        · simp only [spV, q1]
        · split
          · simp only [spV, q1]
          · rfl
theorem look_skip (e fl tt : Int) (h : 0 < e ∧ e < tt) (m : AdM × StM) (r : Rs) : spV (lookS e m r) fl tt = spV m fl tt := by
  unfold lookS
  by_cases h1 : r.fl = fl ∧ r.tt = tt
  · rw [if_pos (.inr (by rw [h1.2]; exact h))]
  · have hne : (fl, tt) ≠ (r.fl, r.tt) := fun x => h1 (by injection x with a b; exact ⟨a.symm, b.symm⟩)
    have q1 : ∀ {β : Type} (m : List (Sp × β)) (b : β), look1 (ins m (r.fl, r.tt) b) (fl, tt) = look1 m (fl, tt) := fun m b => by rw [Xr, if_neg hne]
    split
    · rfl
    · split
      · simp only [spV, q1]
      · split
        · simp only [spV, q1]
        · split
          · simp only [spV, q1]
          · rfl
theorem look_key (e fl tt : Int) : ∀ (l : List Rs) (m : AdM × StM), spV (l.foldl (lookS e) m) fl tt = if 0 < e ∧ e < tt then spV m fl tt else l.foldl (kS fl tt) (spV m fl tt)
  | [], m => by simp
  | r :: l, m => by
    rw [List.foldl_cons, List.foldl_cons, look_key e fl tt l]
    by_cases h : 0 < e ∧ e < tt
    · rw [if_pos h, if_pos h, look_skip e fl tt h]
    · rw [if_neg h, if_neg h, look_step e fl tt h]
theorem lookG_key (l : List Rs) (fl tt : Int) : spV (lookG l) fl tt = if 0 < endF l ∧ endF l < tt then (0, 0) else l.foldl (kS fl tt) (0, 0) := by
  unfold lookG; rw [look_key]; rfl
theorem kS_mixed (fl tt : Int) : ∀ l : List Rs, l.foldl (kS fl tt) (0, 3) = (0, 3)
  | [] => rfl
  | r :: l => by
    have : kS fl tt (0, 3) r = (0, 3) := by
      unfold kS
      split
      · rfl
      · split
        · rfl
        · rw [if_neg (show ¬ ((3 : Int) ≤ 1) by decide), if_neg (show ¬ ((3 : Int) = 2 ∧ (0 : _root_.Fin 4294967296) ≠ r.fr) from fun h => absurd h.1 (by decide))]
    rw [List.foldl_cons, this]; exact kS_mixed fl tt l
attribute [local irreducible] Go.Own.Fin Ok OkB OkF OkL OkN OkT Ops St
theorem goClash : InGo Tryz.prog 145 := InGo.of Tryz.func145 rfl (by decide)
theorem drop_getD {α : Type} {l : List α} {z : α} {i : Nat} (h : i < l.length) : l.drop i = l.getD i z :: l.drop (i + 1) := by
  rw [List.drop_eq_getElem_cons h, List.getD_eq_getElem?_getD, List.getElem?_eq_getElem h]; rfl
set_option maxHeartbeats 4000000 in
theorem Clash_ok (l : List Rs) (hl : l.length ≤ 100000) : Ok Tryz.prog 145 [rssC l] (intC (clashG [] l)) := by
  refine Ok.enter Tryz.func145 rfl _ Tryz.ntmps145 rfl ?_
  intro S w
  (refine Qw (Qx fun K hK => ?_); refine Qv rfl rfl rfl ?_; refine Qj (hK _ _ (Qz (Qw ?_))); clear hK K; refine Qx (fun K hK => ?_))
  refine Ops.mkMap 8 rfl rfl rfl rfl rfl (fun v1 hv1 => ?_)
  (refine Qv rfl rfl rfl ?_; refine Qj (hK _ _ (Qz (Qw (Qw ?_)))); clear hK K; refine Qx (fun K hK => ?_); refine Qq rfl rfl rfl ?_; refine Qd rfl rfl (by with_reducible exact sRes.und) (List.length_map ..) rfl ?_; refine Qq rfl rfl rfl ?_; refine Qj (hK _ _ (Qz (Q4 ?_))); clear hK K)
  refine Xz (α := Nat × SeenM) (fun q => q.1 ≤ l.length ∧ clashG [] l = q.1 + clashG q.2 (l.drop q.1))
    (fun q => [(3, .ct (.ex v1)), (0, .ct (rssC l)), (11, .ct (rssC l)), (12, .ct (intC l.length)), (13, .ct (intC q.1))]) (fun q => [(8, .mpx v1 (kvs esE adrF q.2))]) (fun q => l.length - q.1) (0, []) ⟨Nat.zero_le _, (Nat.zero_add _).symm⟩ (by exact Qu rfl ⟨rfl, rfl, rfl, rfl, rfl, trivial⟩) ?_
  rintro ⟨i, m⟩ ⟨hi, hq⟩
  try dsimp only at hi hq ⊢
  (refine Qw (Qx fun K hK => ?_); refine Qk ilss rfl rfl rfl rfl ?_; refine Qj (hK _ _ (Qz (Qw ?_))); clear hK K)
  refine Q2 rfl (fun h => ?_) (fun h => ?_)
  · have e2 : (i : Int).toNat = i := Int.toNat_natCast i
    rw [drop_getD (z := rs0) (show i < l.length by omega)] at hq
    (refine Q1 (Qz (Qw (Q4 (Qw (Qx fun K hK => ?_))))); refine Qq rfl rfl rfl ?_; refine Qg rfl rfl rfl (by with_reducible exact sRes) (by omega) (Xa (by omega) (by omega)) rfl ?_; refine XZ (n := 17) rfl rfl rfl (by with_reducible exact lRes) rfl rfl ?_; refine Qh 0 rfl rfl (by with_reducible exact zvRes) rfl rfl rfl ?_; refine Qv rfl rfl rfl ?_; refine Qe 17 rfl rfl rfl rfl rfl (by with_reducible exact szRes) rfl rfl ?_; refine Qj (hK _ _ (Qz (Qw ?_))); clear hK K; refine Qx (fun K hK => ?_); refine Qa (n := 17) rfl rfl rfl rfl rfl (by with_reducible exact lRes) rfl ?_)
    rw [e2]
    generalize l.getD i rs0 = c at hq ⊢
    have hP := Place_ok c
    simp only [clashG] at hq
    generalize plS c = sc at hP hq
    generalize plB c = pc at hP hq
    skip
    refine QW goPlace hP rfl rfl rfl rfl ?_
    (refine Qq rfl rfl rfl ?_; refine Qf rfl rfl rfl rfl ?_; refine Qf rfl rfl rfl rfl ?_)
    refine Qh 3 rfl rfl (by with_reducible exact zvES) rfl rfl rfl ?_
    refine Qe 5 rfl rfl rfl rfl rfl (by with_reducible exact szES) rfl rfl ?_
    (refine Qv rfl rfl rfl ?_; refine Qj (hK _ _ (Qz (Qw (Qw ?_)))); clear hK K; refine Qx (fun K hK => ?_); refine Qq rfl rfl rfl ?_; refine Qp rfl rfl rfl ?_; refine Qj (hK _ _ (Qz ?_)); clear hK K)
    refine XX rfl (fun h1 => ?_) (fun h1 => ?_)
    · have h1' : pc = false := by simpa using h1
      rw [if_pos h1'] at hq
      (refine Qn (Qz (Qx fun K hK => ?_)); refine Qk (iadd (by omega) (by omega)) rfl rfl rfl rfl ?_; refine Qq rfl rfl rfl ?_; refine Qj (hK _ _ (Q3 ?_)); clear hK K)
      refine Qm 3 ?_
      refine Qm 0 ?_
      refine Q7 (i + 1, m) (by dsimp only; omega) ⟨by dsimp only; omega, by dsimp only; omega⟩ (by exact Qu rfl ⟨rfl, rfl, rfl, rfl, by simp only [Int.natCast_add]; rfl, trivial⟩)
    · have h1' : pc = true := by simpa using h1
      rw [if_neg (by rw [h1']; decide)] at hq
      (refine Q1 (Qz (Qw (Qw (Qx fun K hK => ?_)))); refine Qq rfl rfl rfl ?_)
      refine Qa (n := 5) rfl rfl rfl rfl rfl (by with_reducible exact lES) rfl ?_
      refine Ops.lookM2 (i := 8) (cv := adrF) (enc := esE) 0 sc rfl rfl rfl rfl (KeyIs.agg (us := esV sc) rfl) uMSeen z0Adr (fun _ _ => rfl) keyES rfl ?_
      generalize (look1 m sc).isSome = b at hq ⊢
      generalize (look1 m sc).getD 0 = a at hq ⊢
      (refine Qq rfl rfl rfl ?_; refine Qf rfl rfl rfl rfl ?_; refine Qf rfl rfl rfl rfl ?_; refine Qv rfl rfl rfl ?_; refine Qv rfl rfl rfl ?_; refine Qj (hK _ _ (Qz (Qw ?_))); clear hK K; refine Qx (fun K hK => ?_); refine Qq rfl rfl rfl ?_; refine Qq rfl rfl rfl ?_)
      refine X3 32 (b := b) rfl (fun h2 => ?_) (fun h2 => ?_)
      · (refine Qq rfl rfl rfl ?_; refine QV rfl rfl rfl (by with_reducible first | exact fS0 | exact fS1 | exact fS2 | exact fS3 | exact fS4 | exact fS5 | exact fS6 | exact fS7 | exact fS8 | exact fS9 | exact fS10 | exact fS11 | exact fN0 | exact fN1 | exact fN2 | exact fN3 | exact fN4 | exact fN5) rfl ?_; refine X2 rfl rfl (by with_reducible first | exact fN0 | exact fN1 | exact fN2 | exact fN3 | exact fN4 | exact fN5) rfl ?_; refine QJ rfl rfl rfl rfl rfl (by with_reducible first | exact lInt | exact Q9 | exact Q6 | exact lRess) rfl ?_; refine Qk ineq rfl rfl rfl rfl ?_; refine QZ rfl rfl rfl rfl ?_; refine Qj (hK _ _ (Qz ?_)); clear hK K)
        refine Q2 rfl (fun h3 => ?_) (fun h3 => ?_)
        · rw [if_pos ⟨h2, fun h => h3 (by rw [h])⟩] at hq
          (refine Qw (Qx fun K hK => ?_); refine Qq rfl rfl rfl ?_; refine Qv rfl rfl rfl ?_; refine Qj (hK _ _ (Qz (Q0 (QY (Q8 (QY (QY (Q8 (QY ?_))))))))); clear hK K)
          refine QU [_] rfl (QQ rfl QX) (by rw [hq]; rfl) rfl
        · rw [if_neg (fun h => h.2 (Fin.ext (by omega)))] at hq
          (refine Q1 (Qz (Qx fun K hK => ?_)); refine Qq rfl rfl rfl ?_)
          refine Qa (n := 5) rfl rfl rfl rfl rfl (by with_reducible exact lES) rfl ?_
          (refine QV rfl rfl rfl (by with_reducible first | exact fS0 | exact fS1 | exact fS2 | exact fS3 | exact fS4 | exact fS5 | exact fS6 | exact fS7 | exact fS8 | exact fS9 | exact fS10 | exact fS11 | exact fN0 | exact fN1 | exact fN2 | exact fN3 | exact fN4 | exact fN5) rfl ?_; refine X2 rfl rfl (by with_reducible first | exact fN0 | exact fN1 | exact fN2 | exact fN3 | exact fN4 | exact fN5) rfl ?_; refine QJ rfl rfl rfl rfl rfl (by with_reducible first | exact lInt | exact Q9 | exact Q6 | exact lRess) rfl ?_)
          refine Xv (i := 8) (enc := esE) (cv := adrF) sc c.fr rfl rfl rfl (KeyIs.agg (us := esV sc) rfl) rfl uMSeen keyES ?_
          (refine Qj (hK _ _ (Qz ?_)); clear hK K; refine Qx (fun K hK => ?_); refine Qk (iadd (by omega) (by omega)) rfl rfl rfl rfl ?_; refine Qq rfl rfl rfl ?_; refine Qj (hK _ _ (Q3 ?_)); clear hK K)
          refine Qm 3 ?_
          refine Qm 0 ?_
          refine Q7 (i + 1, ins m sc c.fr) (by dsimp only; omega) ⟨by dsimp only; omega, by dsimp only; omega⟩ (by exact Qu rfl ⟨rfl, rfl, rfl, rfl, by simp only [Int.natCast_add]; rfl, trivial⟩)
      · rw [if_neg (fun h => by rw [h2] at h; cases h.1)] at hq
        (refine Qy rfl rfl rfl ?_; refine Qy rfl rfl rfl ?_; refine Qy rfl rfl rfl ?_; refine Qy rfl rfl rfl ?_; refine Qy rfl rfl rfl ?_; refine QK rfl rfl rfl rfl ?_; refine Qj (hK _ _ (Qz (Xx rfl (Q1 (Qz ?_))))); clear hK K; refine Qx (fun K hK => ?_); refine Qq rfl rfl rfl ?_)
        refine Qa (n := 5) rfl rfl rfl rfl rfl (by with_reducible exact lES) rfl ?_
        (refine QV rfl rfl rfl (by with_reducible first | exact fS0 | exact fS1 | exact fS2 | exact fS3 | exact fS4 | exact fS5 | exact fS6 | exact fS7 | exact fS8 | exact fS9 | exact fS10 | exact fS11 | exact fN0 | exact fN1 | exact fN2 | exact fN3 | exact fN4 | exact fN5) rfl ?_; refine X2 rfl rfl (by with_reducible first | exact fN0 | exact fN1 | exact fN2 | exact fN3 | exact fN4 | exact fN5) rfl ?_; refine QJ rfl rfl rfl rfl rfl (by with_reducible first | exact lInt | exact Q9 | exact Q6 | exact lRess) rfl ?_)
        refine Xv (i := 8) (enc := esE) (cv := adrF) sc c.fr rfl rfl rfl (KeyIs.agg (us := esV sc) rfl) rfl uMSeen keyES ?_
        (refine Qj (hK _ _ (Qz ?_)); clear hK K; refine Qx (fun K hK => ?_); refine Qk (iadd (by omega) (by omega)) rfl rfl rfl rfl ?_; refine Qq rfl rfl rfl ?_; refine Qj (hK _ _ (Q3 ?_)); clear hK K)
        refine Qm 3 ?_
        refine Qm 0 ?_
        refine Q7 (i + 1, ins m sc c.fr) (by dsimp only; omega) ⟨by dsimp only; omega, by dsimp only; omega⟩ (by exact Qu rfl ⟨rfl, rfl, rfl, rfl, by simp only [Int.natCast_add]; rfl, trivial⟩)
  · have hi' : i = l.length := by omega
    rw [hi', List.drop_length] at hq
    simp only [clashG, Nat.add_zero] at hq
    (refine Qn (Qz (Qw (Qx fun K hK => ?_))); refine Qq rfl rfl rfl ?_; refine Qd rfl rfl (by with_reducible exact sRes.und) (List.length_map ..) rfl ?_; refine Qv rfl rfl rfl ?_; refine Qj (hK _ _ (Qz (Q0 ?_))); clear hK K)
    refine QU [_] rfl (QQ rfl QX) (by rw [hq]; rfl) rfl
theorem witG_loop {p : Rs → Bool} {z : Rs} : ∀ (l : List Rs) (i : Nat), (∀ j, j < i → j < l.length → p (l.getD j z) = false) → i ≤ l.length → l.findIdx? p = ((l.drop i).findIdx? p).map (· + i)
  | [], i, _, h => by
    have : i = 0 := by simpa using h
    subst this; rfl
  | a :: l, 0, _, _ => by simp
  | a :: l, i + 1, h, hi => by
    have h0 : p a = false := h 0 (Nat.succ_pos _) (Nat.succ_pos _)
    have ih := witG_loop l i (fun j h1 h2 => h (j + 1) (by omega) (by simpa using h2)) (by simpa using hi)
    rw [List.findIdx?_cons, h0, ih]
    simp only [List.drop_succ_cons, Bool.false_eq_true, if_false, Option.map_map, Function.comp_def]
    rfl
abbrev witC (o : List Rs) : List CT := match witG o with
  | some i => [ikC (idOf (o.getD i rs0)), ikC (idOf (o.getD (clashG [] o) rs0)), boolC true]
  | none => [ikC ⟨0, 0, 0⟩, ikC ⟨0, 0, 0⟩, boolC false]
theorem goWitness : InGo Tryz.prog 115 := InGo.of Tryz.func115 rfl (by decide)
theorem take_getD {l : List Rs} {z : Rs} {k i : Nat} (h : i < k) : (l.take k).getD i z = l.getD i z := by
  rw [List.getD_eq_getElem?_getD, List.getElem?_take_of_lt h, ← List.getD_eq_getElem?_getD]
theorem fidx_drop {p : Rs → Bool} {z : Rs} {l : List Rs} {k i : Nat} (hk : k ≤ l.length) (hi : i ≤ k) (h : ∀ j, j < i → p (l.getD j z) = false) : (l.take k).findIdx? p = (((l.take k).drop i).findIdx? p).map (· + i) := by
  refine witG_loop (z := z) (l.take k) i (fun j h1 h2 => ?_) (by rw [List.length_take]; omega)
  rw [List.getD_eq_getElem?_getD, List.getElem?_take_of_lt (by rw [List.length_take] at h2; omega), ← List.getD_eq_getElem?_getD]; exact h j h1
set_option maxHeartbeats 4000000 in
theorem Witness_ok (l : List Rs) (hl : l.length ≤ 10000) : Ok Tryz.prog 115 [rssC l] (.fr (tupT (witC (sd cmpR (l.filter okR))))) := by
  have hO := Order_ok l hl
  have hol : (sd cmpR (l.filter okR)).length ≤ 10000 := by
    have := sd_len cmpR (l.filter okR)
    have := List.length_filter_le okR l
    omega
  generalize sd cmpR (l.filter okR) = o at hO hol ⊢
  have hC := Clash_ok o (by omega)
  have hle := clashG_le o []
  have ew : witG o = if clashG [] o < o.length then (o.take (clashG [] o)).findIdx? (fun a => conB a (o.getD (clashG [] o) rs0)) else none := rfl
  have eC : (CT.fr (tupT (witC o))) = .fr (tupT (match witG o with
    | some i => [ikC (idOf (o.getD i rs0)), ikC (idOf (o.getD (clashG [] o) rs0)), boolC true]
    | none => [ikC ⟨0, 0, 0⟩, ikC ⟨0, 0, 0⟩, boolC false])) := rfl
  rw [eC]
  clear eC
  generalize clashG [] o = k at hC hle ew ⊢
  generalize witG o = wt at ew ⊢
  refine Ok.enter Tryz.func115 rfl _ Tryz.ntmps115 rfl ?_
  intro S w
  (refine Qw (Qx fun K hK => ?_))
  refine Qh 0 rfl rfl (by with_reducible exact zvID) rfl rfl rfl ?_
  refine Qh 1 rfl rfl (by with_reducible exact zvID) rfl rfl rfl ?_
  (refine Qv rfl rfl rfl ?_; refine Qj (hK _ _ (Qz (Qw ?_))); clear hK K; refine Qx (fun K hK => ?_); refine Qq rfl rfl rfl ?_)
  refine Z2 3 goOrder hO rfl rfl rfl rfl rfl rfl ?_
  refine ZJ 3 _ rfl (Zz _ _) X7 ?_
  (refine Qv rfl rfl rfl ?_; refine Qj (hK _ _ (Qz (Qw ?_))); clear hK K; refine Qx (fun K hK => ?_); refine Qq rfl rfl rfl ?_)
  refine QW goClash hC rfl rfl rfl rfl ?_
  (refine Qv rfl rfl rfl ?_; refine Qj (hK _ _ (Qz (Qw (Qw ?_)))); clear hK K; refine Qx (fun K hK => ?_); refine Qv rfl rfl rfl ?_; refine Qj (hK _ _ (Qz (Q4 ?_))); clear hK K)
  refine Xz (α := Nat) (fun i => i ≤ k ∧ (k < o.length → ∀ j, j < i → conB (o.getD j rs0) (o.getD k rs0) = false))
    (fun i => [(2, .own 0), (3, .own 1), (5, .ct (rssC o)), (6, .ct (intC k)), (7, .ct (intC i))]) (fun _ => [(1, .box 124 (ikCs ⟨0, 0, 0⟩)), (0, .box 124 (ikCs ⟨0, 0, 0⟩))]) (fun i => k - i) 0 ⟨Nat.zero_le _, fun _ j hj => by omega⟩ (by exact Qu rfl ⟨rfl, rfl, rfl, rfl, rfl, trivial⟩) ?_
  intro i ⟨hi, hq⟩
  try dsimp only
  (refine Qw (Qw (Qx fun K hK => ?_)); refine Qq rfl rfl rfl ?_; refine Qq rfl rfl rfl ?_; refine Qk ilss rfl rfl rfl rfl ?_; refine Qq rfl rfl rfl ?_)
  refine Q5 15 (p := (i : Int) < k) rfl (fun h => ?_) (fun h => ?_)
  · (refine Qq rfl rfl rfl ?_; refine Qq rfl rfl rfl ?_; refine Qd rfl rfl (by with_reducible exact sRes.und) (List.length_map ..) rfl ?_; refine Qk ilss rfl rfl rfl rfl ?_; refine QZ rfl rfl rfl rfl ?_; refine Qj (hK _ _ (Qz ?_)); clear hK K)
    refine Q2 rfl (fun h2 => ?_) (fun h2 => ?_)
    · have hk : k < o.length := by omega
      rw [if_pos hk, fidx_drop (i := i) hle hi (hq hk)] at ew
      have e1 : (i : Int).toNat = i := Int.toNat_natCast i
      have e2 : (k : Int).toNat = k := Int.toNat_natCast k
      rw [drop_getD (z := rs0) (show i < (o.take k).length by rw [List.length_take]; omega), take_getD (by omega), List.findIdx?_cons] at ew
      have hCo := Contradict_ok (o.getD i rs0) (o.getD k rs0)
      have hn : conB (o.getD i rs0) (o.getD k rs0) = false → ∀ j, j < i + 1 → conB (o.getD j rs0) (o.getD k rs0) = false := fun h j hj => by
        rcases Nat.lt_or_ge j i with h3 | h3
        · exact hq hk j h3
        · have : j = i := by omega
          rw [this]; exact h
      generalize conB (o.getD i rs0) (o.getD k rs0) = cb at hCo hn ew
      have hA := YX (o.getD i rs0)
      have hB := YX (o.getD k rs0)
      (refine Q1 (Qz (Qw (Q4 (Qw ?_)))))
      refine Xu (by with_reducible exact mixed) 9 (.p 0 (.p 1 (.p 2 (.p 4 (.p 5 (.p 6 (.f 3 (.f 7 (.m 8 .done))))))))) (by kernel_rfl) (fun K hK => ?_)
      (refine Qq rfl rfl rfl ?_; refine Qq rfl rfl rfl ?_; refine Qg rfl rfl rfl (by with_reducible exact sRes) (by omega) (Xa (by omega) (by omega)) rfl ?_; refine Qq rfl rfl rfl ?_; refine Qq rfl rfl rfl ?_; refine Qg rfl rfl rfl (by with_reducible exact sRes) (by omega) (Xa (by omega) (by omega)) rfl ?_; refine XZ (n := 17) rfl rfl rfl (by with_reducible exact lRes) rfl rfl ?_; refine XZ (n := 17) rfl rfl rfl (by with_reducible exact lRes) rfl rfl ?_)
      rw [e1, e2]
      skip
      refine QW goContradict hCo rfl rfl rfl rfl ?_
      (refine Qj (hK _ _ (Qz ?_)); clear hK K)
      refine XX rfl (fun h3 => ?_) (fun h3 => ?_)
      · rw [if_pos h3] at ew
        simp only [Option.map_some, Nat.zero_add] at ew
        (refine Qw ?_)
        refine Xu (by with_reducible exact mixed) 10 (.p 0 (.p 1 (.p 2 (.p 5 (.p 6 (.p 7 (.f 3 (.fork 4 (.m 8 (.m 9 (.a 10 (.a 11 (.p 12 .done))))) 8 (.m 4 (.m 9 (.a 10 (.a 11 (.p 12 .done))))))))))))) (by kernel_rfl) (fun K hK => ?_)
        (refine Qq rfl rfl rfl ?_; refine Qq rfl rfl rfl ?_; refine Qg rfl rfl rfl (by with_reducible exact sRes) (by omega) (Xa (by omega) (by omega)) rfl ?_; refine Qq rfl rfl rfl ?_; refine Qq rfl rfl rfl ?_; refine Qg rfl rfl rfl (by with_reducible exact sRes) (by omega) (Xa (by omega) (by omega)) rfl ?_; refine XZ (n := 17) rfl rfl rfl (by with_reducible exact lRes) rfl rfl ?_)
        rw [e1]
        skip
        refine Ops.fork ?_ ?_
        · refine QW Zr hA rfl rfl rfl rfl ?_
          (refine XZ (n := 17) rfl rfl rfl (by with_reducible exact lRes) rfl rfl ?_)
          rw [e2]
          skip
          refine QW Zr hB rfl rfl rfl rfl ?_
          skip
          refine Qe 3 rfl rfl rfl rfl rfl (by with_reducible exact szID) rfl rfl ?_
          refine Qe 3 rfl rfl rfl rfl rfl (by with_reducible exact szID) rfl rfl ?_
          (refine Qv rfl rfl rfl ?_; refine Qj (hK _ _ (Qz (Q0 (Q8 (QY (QY (Q8 (QY ?_)))))))); clear hK K)
          refine QU [_, _, _] rfl (Qi (n := 3) rfl rfl (by with_reducible exact lID) rfl (Qi (n := 3) rfl rfl (by with_reducible exact lID) rfl (QQ rfl QX))) (by rw [ew]; rfl) rfl
        · (refine XZ (n := 17) rfl rfl rfl (by with_reducible exact lRes) rfl rfl ?_)
          rw [e2]
          skip
          refine QW Zr hA rfl rfl rfl rfl ?_
          skip
          refine QW Zr hB rfl rfl rfl rfl ?_
          skip
          refine Qe 3 rfl rfl rfl rfl rfl (by with_reducible exact szID) rfl rfl ?_
          refine Qe 3 rfl rfl rfl rfl rfl (by with_reducible exact szID) rfl rfl ?_
          (refine Qv rfl rfl rfl ?_; refine Qj (hK _ _ (Qz (Q0 (Q8 (QY (QY (Q8 (QY ?_)))))))); clear hK K)
          refine QU [_, _, _] rfl (Qi (n := 3) rfl rfl (by with_reducible exact lID) rfl (Qi (n := 3) rfl rfl (by with_reducible exact lID) rfl (QQ rfl QX))) (by rw [ew]; rfl) rfl
      · (refine Q1 (Qz (Qx fun K hK => ?_)); refine Qq rfl rfl rfl ?_; refine Qk (iadd (by omega) (by omega)) rfl rfl rfl rfl ?_; refine Qv rfl rfl rfl ?_; refine Qj (hK _ _ (Q3 ?_)); clear hK K)
        refine Q7 (i + 1) (by omega) ⟨by omega, fun _ => hn h3⟩ (by exact Qu rfl ⟨rfl, rfl, rfl, rfl, by simp only [Int.natCast_add]; rfl, trivial⟩)
    · rw [if_neg (by omega)] at ew
      (refine Qn (Qz (Qw (Qx fun K hK => ?_))))
      refine Xq rfl (by with_reducible exact bID') rfl .nil rfl ?_
      refine Xq rfl (by with_reducible exact bID') rfl .nil rfl ?_
      refine Qe 3 rfl rfl rfl rfl rfl (by with_reducible exact szID) rfl rfl ?_
      refine Qe 3 rfl rfl rfl rfl rfl (by with_reducible exact szID) rfl rfl ?_
      (refine Qv rfl rfl rfl ?_; refine Qj (hK _ _ (Qz (Q0 ?_))); clear hK K)
      refine QU [_, _, _] rfl (Qi (n := 3) rfl rfl (by with_reducible exact lID) rfl (Qi (n := 3) rfl rfl (by with_reducible exact lID) rfl (QQ rfl QX))) (by rw [ew]; rfl) rfl
  · have ew : wt = none := by
      rw [ew]
      split
      · rename_i hk
        rw [fidx_drop (i := i) hle hi (hq hk), show i = k by omega, List.drop_of_length_le (by rw [List.length_take]; omega)]; rfl
      · rfl
    (refine Qy rfl rfl rfl ?_; refine Qy rfl rfl rfl ?_; refine Qy rfl rfl rfl ?_; refine Qy rfl rfl rfl ?_; refine QK rfl rfl rfl rfl ?_; refine Qj (hK _ _ (Qz (Xx rfl (Qn (Qz (Qw ?_)))))); clear hK K; refine Qx (fun K hK => ?_))
    refine Xq rfl (by with_reducible exact bID') rfl .nil rfl ?_
    refine Xq rfl (by with_reducible exact bID') rfl .nil rfl ?_
    refine Qe 3 rfl rfl rfl rfl rfl (by with_reducible exact szID) rfl rfl ?_
    refine Qe 3 rfl rfl rfl rfl rfl (by with_reducible exact szID) rfl rfl ?_
    (refine Qv rfl rfl rfl ?_; refine Qj (hK _ _ (Qz (Q0 ?_))); clear hK K)
    refine QU [_, _, _] rfl (Qi (n := 3) rfl rfl (by with_reducible exact lID) rfl (Qi (n := 3) rfl rfl (by with_reducible exact lID) rfl (QQ rfl QX))) (by rw [ew]; rfl) rfl
theorem goConsistent : InGo Tryz.prog 74 := InGo.of Tryz.func74 rfl (by decide)
def consB (l : List Rs) : Bool := (witG (sd cmpR (l.filter okR))).isNone
theorem Consistent_ok (l : List Rs) (hl : l.length ≤ 10000) : Ok Tryz.prog 74 [rssC l] (boolC (consB l)) := by
  have hW := Witness_ok l hl
  have e0 : consB l = (witG (sd cmpR (l.filter okR))).isNone := rfl
  have hw : ∃ i j : Ik, witC (sd cmpR (l.filter okR)) = [ikC i, ikC j, boolC (!consB l)] := by
    rw [e0]
    unfold witC
    cases witG (sd cmpR (l.filter okR)) <;> exact ⟨_, _, rfl⟩
  obtain ⟨a, b, hw⟩ := hw
  rw [hw] at hW
  generalize consB l = c at hW ⊢
  refine Ok.enter Tryz.func74 rfl _ Tryz.ntmps74 rfl ?_
  intro S w
  (refine Qw (Qx fun K hK => ?_); refine Qv rfl rfl rfl ?_; refine Qj (hK _ _ (Qz (Qw ?_))); clear hK K; refine Qx (fun K hK => ?_); refine Qq rfl rfl rfl ?_)
  refine QW goWitness hW rfl rfl rfl rfl ?_
  (refine Qq rfl rfl rfl ?_; refine Qf rfl rfl rfl rfl ?_; refine Qf rfl rfl rfl rfl ?_; refine Qf rfl rfl rfl rfl ?_)
  refine Qh 0 rfl rfl (by with_reducible exact zvID) rfl rfl rfl ?_
  refine Qh 1 rfl rfl (by with_reducible exact zvID) rfl rfl rfl ?_
  refine Qe 3 rfl rfl rfl rfl rfl (by with_reducible exact szID) rfl rfl ?_
  refine Qe 3 rfl rfl rfl rfl rfl (by with_reducible exact szID) rfl rfl ?_
  (refine Qv rfl rfl rfl ?_; refine Qj (hK _ _ (Qz (Qw ?_))); clear hK K; refine Qx (fun K hK => ?_); refine Qq rfl rfl rfl ?_; refine Qp rfl rfl rfl ?_; refine Qv rfl rfl rfl ?_; refine Qj (hK _ _ (Qz (Q0 ?_))); clear hK K)
  refine QU [_] rfl (QQ rfl QX) (by rw [Bool.not_not]; rfl) rfl
attribute [local irreducible] OkM
theorem gorUsable : InGo Tryz.prog 84 := InGo.of Tryz.func84 rfl (by decide)
theorem rUsable_ok (r : Rs) : Ok Tryz.prog 84 [rsC r] (boolC (usR r)) := by
  have hV := rValidR_ok r
  have e : usR r = (!r.db && okR r) := rfl
  generalize usR r = u at e ⊢
  generalize okR r = o at hV e
  refine Ok.enter Tryz.func84 rfl _ Tryz.ntmps84 rfl ?_
  intro S w
  (refine Qw (Qx fun K hK => ?_); refine Xk 0 rfl rfl rfl rfl rfl rfl rfl ?_; refine Qv rfl rfl rfl ?_; refine Qj (hK _ _ (Qz (Qw ?_))); clear hK K; refine Qx (fun K hK => ?_); refine Qa (n := 17) rfl rfl rfl rfl rfl (by with_reducible exact lRes) rfl ?_)
  refine QW gorValidR hV rfl rfl rfl rfl ?_
  (refine Qq rfl rfl rfl ?_)
  refine X3 5 (b := o) rfl (fun h => ?_) (fun h => ?_)
  · (refine QV rfl rfl rfl (by with_reducible first | exact fS0 | exact fS1 | exact fS2 | exact fS3 | exact fS4 | exact fS5 | exact fS6 | exact fS7 | exact fS8 | exact fS9 | exact fS10 | exact fS11 | exact fN0 | exact fN1 | exact fN2 | exact fN3 | exact fN4 | exact fN5) rfl ?_; refine QJ rfl rfl rfl rfl rfl (by with_reducible first | exact lInt | exact Q9 | exact Q6 | exact lRess) rfl ?_; refine Qp rfl rfl rfl ?_; refine QZ rfl rfl rfl rfl ?_; refine Qv rfl rfl rfl ?_; refine Qj (hK _ _ (Qz (Q0 ?_))); clear hK K)
    refine QU [_] rfl (QQ rfl QX) (by rw [e, h, Bool.and_true]; rfl) rfl
  · (refine Qy rfl rfl rfl ?_; refine Qy rfl rfl rfl ?_; refine Qy rfl rfl rfl ?_; refine QK rfl rfl rfl rfl ?_; refine Qv rfl rfl rfl ?_; refine Qj (hK _ _ (Qz (Q0 ?_))); clear hK K)
    refine QU [_] rfl (QQ rfl QX) (by rw [e, h, Bool.and_false]; rfl) rfl
theorem gorFinal : InGo Tryz.prog 121 := InGo.of Tryz.func121 rfl (by decide)
theorem rFinal_ok (r : Rs) : Ok Tryz.prog 121 [rsC r] (boolC (fiR r)) := by
  have hU := rUsable_ok r
  have e : fiR r = (r.an && (decide (r.ki ≠ 1) && usR r)) := rfl
  generalize fiR r = u at e ⊢
  generalize usR r = o at hU e
  refine Ok.enter Tryz.func121 rfl _ Tryz.ntmps121 rfl ?_
  intro S w
  (refine Qw (Qx fun K hK => ?_); refine Xk 0 rfl rfl rfl rfl rfl rfl rfl ?_; refine Qv rfl rfl rfl ?_; refine Qj (hK _ _ (Qz (Qw ?_))); clear hK K; refine Qx (fun K hK => ?_); refine Qa (n := 17) rfl rfl rfl rfl rfl (by with_reducible exact lRes) rfl ?_)
  refine QW gorUsable hU rfl rfl rfl rfl ?_
  (refine Qq rfl rfl rfl ?_)
  refine X3 5 (b := o) rfl (fun h => ?_) (fun h => ?_)
  · (refine QV rfl rfl rfl (by with_reducible first | exact fS0 | exact fS1 | exact fS2 | exact fS3 | exact fS4 | exact fS5 | exact fS6 | exact fS7 | exact fS8 | exact fS9 | exact fS10 | exact fS11 | exact fN0 | exact fN1 | exact fN2 | exact fN3 | exact fN4 | exact fN5) rfl ?_; refine QJ rfl rfl rfl rfl rfl (by with_reducible first | exact lInt | exact Q9 | exact Q6 | exact lRess) rfl ?_; refine QZ rfl rfl rfl rfl ?_; refine Qq rfl rfl rfl ?_)
    refine X3 9 (b := r.an) rfl (fun h2 => ?_) (fun h2 => ?_)
    · (refine QV rfl rfl rfl (by with_reducible first | exact fS0 | exact fS1 | exact fS2 | exact fS3 | exact fS4 | exact fS5 | exact fS6 | exact fS7 | exact fS8 | exact fS9 | exact fS10 | exact fS11 | exact fN0 | exact fN1 | exact fN2 | exact fN3 | exact fN4 | exact fN5) rfl ?_; refine X2 rfl rfl (by with_reducible first | exact fN0 | exact fN1 | exact fN2 | exact fN3 | exact fN4 | exact fN5) rfl ?_; refine QJ rfl rfl rfl rfl rfl (by with_reducible first | exact lInt | exact Q9 | exact Q6 | exact lRess) rfl ?_; refine Qk ineq rfl rfl rfl rfl ?_; refine QZ rfl rfl rfl rfl ?_; refine Qv rfl rfl rfl ?_; refine Qj (hK _ _ (Qz (Q0 ?_))); clear hK K)
      refine QU [_] rfl (QQ rfl QX) (by rw [e, h, h2, Bool.true_and, Bool.and_true]; rfl) rfl
    · (refine Qy rfl rfl rfl ?_; refine Qy rfl rfl rfl ?_; refine Qy rfl rfl rfl ?_; refine Qy rfl rfl rfl ?_; refine QK rfl rfl rfl rfl ?_; refine Qv rfl rfl rfl ?_; refine Qj (hK _ _ (Qz (Q0 ?_))); clear hK K)
      refine QU [_] rfl (QQ rfl QX) (by rw [e, h2, Bool.false_and]; rfl) rfl
  · (refine Qy rfl rfl rfl ?_; refine Qy rfl rfl rfl ?_; refine QK rfl rfl rfl rfl ?_; refine Qq rfl rfl rfl ?_; refine Qy rfl rfl rfl ?_; refine Qy rfl rfl rfl ?_; refine Qy rfl rfl rfl ?_; refine Qy rfl rfl rfl ?_; refine QK rfl rfl rfl rfl ?_; refine Qv rfl rfl rfl ?_; refine Qj (hK _ _ (Qz (Q0 ?_))); clear hK K)
    refine QU [_] rfl (QQ rfl QX) (by rw [e, h, Bool.and_false, Bool.and_false]; rfl) rfl
theorem gorEnd : InGo Tryz.prog 83 := InGo.of Tryz.func83 rfl (by decide)
set_option maxHeartbeats 4000000 in
theorem rEnd_ok (l : List Rs) (hl : l.length ≤ 100000) : Ok Tryz.prog 83 [rssC l] (intC (endF l)) := by
  refine Ok.enter Tryz.func83 rfl _ Tryz.ntmps83 rfl ?_
  intro S w
  (refine Qw (Qx fun K hK => ?_); refine Qv rfl rfl rfl ?_; refine Qj (hK _ _ (Qz (Qw ?_))); clear hK K; refine Qx (fun K hK => ?_); refine Qv rfl rfl rfl ?_; refine Qj (hK _ _ (Qz (Qw (Qw ?_)))); clear hK K; refine Qx (fun K hK => ?_); refine Qv rfl rfl rfl ?_; refine Qj (hK _ _ (Qz (Q4 ?_))); clear hK K)
  refine Xz (α := Nat) (fun i => i ≤ l.length)
    (fun i => [(0, .ct (rssC l)), (3, .ct (intC (endF (l.take i)))), (4, .ct (intC i))]) (fun _ => []) (fun i => l.length - i) 0 (Nat.zero_le _) (by exact Qu rfl ⟨rfl, rfl, rfl, trivial⟩) ?_
  intro i hi
  try dsimp only at hi ⊢
  (refine Qw (Qw (Qx fun K hK => ?_)); refine Qq rfl rfl rfl ?_; refine Qq rfl rfl rfl ?_; refine Qd rfl rfl (by with_reducible exact sRes.und) (List.length_map ..) rfl ?_; refine Qk ilss rfl rfl rfl rfl ?_; refine Qj (hK _ _ (Qz ?_)); clear hK K)
  refine Q2 rfl (fun h => ?_) (fun h => ?_)
  · have e2 : (i : Int).toNat = i := Int.toNat_natCast i
    have hs : endF (l.take (i + 1)) = endS (endF (l.take i)) (l.getD i rs0) := foldl_take endS 0 (z := rs0) (l := l) (i := i) (by omega)
    (refine Q1 (Qz (Qw (Q4 (Qw (Qx fun K hK => ?_))))); refine Qq rfl rfl rfl ?_; refine Qq rfl rfl rfl ?_; refine Qg rfl rfl rfl (by with_reducible exact sRes) (by omega) (Xa (by omega) (by omega)) rfl ?_; refine XZ (n := 17) rfl rfl rfl (by with_reducible exact lRes) rfl rfl ?_)
    rw [e2]
    generalize hx : l.getD i rs0 = x at hs
    generalize endF (l.take i) = en at hs ⊢
    refine QW gorFinal (rFinal_ok x) rfl rfl rfl rfl ?_
    (refine Qq rfl rfl rfl ?_)
    unfold endS at hs
    refine X3 16 (b := fiR x) rfl (fun g1 => ?_) (fun g1 => ?_)
    · (refine Qq rfl rfl rfl ?_; refine Qk ieql rfl rfl rfl rfl ?_; refine Qq rfl rfl rfl ?_)
      refine Q5 19 rfl (fun g2 => ?_) (fun g2 => ?_)
      · rw [if_pos ⟨.inl g2, g1⟩] at hs
        (refine Qy rfl rfl rfl ?_; refine Qy rfl rfl rfl ?_; refine Qy rfl rfl rfl ?_; refine Qy rfl rfl rfl ?_; refine Qy rfl rfl rfl ?_; refine Qy rfl rfl rfl ?_; refine Qy rfl rfl rfl ?_; refine QZ rfl rfl rfl rfl ?_; refine QZ rfl rfl rfl rfl ?_; refine Qj (hK _ _ (Qz (Qo rfl ?_))); clear hK K; refine Qx (fun K hK => ?_); refine Qq rfl rfl rfl ?_; refine Qq rfl rfl rfl ?_; refine Qg rfl rfl rfl (by with_reducible exact sRes) (by omega) (Xa (by omega) (by omega)) rfl ?_)
        rw [e2, hx]
        refine Ops.fldF rfl rfl (by with_reducible exact fS7) rfl ?_
        refine Xy (c := intC x.tt) rfl rfl rfl (by with_reducible exact lInt) rfl ?_
        (refine Qv rfl rfl rfl ?_; refine Qj (hK _ _ (Qz ?_)); clear hK K; refine Qx (fun K hK => ?_); refine Qq rfl rfl rfl ?_; refine Qk (iadd (by omega) (by omega)) rfl rfl rfl rfl ?_; refine Qv rfl rfl rfl ?_; refine Qj (hK _ _ (Q3 ?_)); clear hK K)
        refine Q7 (i + 1) (by omega) (by omega) (by rw [hs]; exact Qu rfl ⟨rfl, rfl, by simp only [Int.natCast_add]; rfl, trivial⟩)
      · (refine Qq rfl rfl rfl ?_; refine Qq rfl rfl rfl ?_; refine Qg rfl rfl rfl (by with_reducible exact sRes) (by omega) (Xa (by omega) (by omega)) rfl ?_)
        rw [e2, hx]
        refine Ops.fldF rfl rfl (by with_reducible exact fS7) rfl ?_
        refine Xy (c := intC x.tt) rfl rfl rfl (by with_reducible exact lInt) rfl ?_
        (refine Qq rfl rfl rfl ?_; refine Qk ilss rfl rfl rfl rfl ?_; refine QK rfl rfl rfl rfl ?_; refine QZ rfl rfl rfl rfl ?_; refine Qj (hK _ _ (Qz ?_)); clear hK K)
        refine Q2 rfl (fun g3 => ?_) (fun g3 => ?_)
        · rw [if_pos ⟨.inr g3, g1⟩] at hs
          (refine Qx (fun K hK => ?_); refine Qq rfl rfl rfl ?_; refine Qq rfl rfl rfl ?_; refine Qg rfl rfl rfl (by with_reducible exact sRes) (by omega) (Xa (by omega) (by omega)) rfl ?_)
          rw [e2, hx]
          refine Ops.fldF rfl rfl (by with_reducible exact fS7) rfl ?_
          refine Xy (c := intC x.tt) rfl rfl rfl (by with_reducible exact lInt) rfl ?_
          (refine Qv rfl rfl rfl ?_; refine Qj (hK _ _ (Qz ?_)); clear hK K; refine Qx (fun K hK => ?_); refine Qq rfl rfl rfl ?_; refine Qk (iadd (by omega) (by omega)) rfl rfl rfl rfl ?_; refine Qv rfl rfl rfl ?_; refine Qj (hK _ _ (Q3 ?_)); clear hK K)
          refine Q7 (i + 1) (by omega) (by omega) (by rw [hs]; exact Qu rfl ⟨rfl, rfl, by simp only [Int.natCast_add]; rfl, trivial⟩)
        · rw [if_neg (fun h => h.1.elim g2 g3)] at hs
          (refine Q1 (Qz (Qx fun K hK => ?_)); refine Qq rfl rfl rfl ?_; refine Qk (iadd (by omega) (by omega)) rfl rfl rfl rfl ?_; refine Qv rfl rfl rfl ?_; refine Qj (hK _ _ (Q3 ?_)); clear hK K)
          refine Q7 (i + 1) (by omega) (by omega) (by rw [hs]; exact Qu rfl ⟨rfl, rfl, by simp only [Int.natCast_add]; rfl, trivial⟩)
    · rw [if_neg (fun h => by rw [g1] at h; cases h.2)] at hs
      (refine Qy rfl rfl rfl ?_; refine Qy rfl rfl rfl ?_; refine Qy rfl rfl rfl ?_; refine Qy rfl rfl rfl ?_; refine Qy rfl rfl rfl ?_; refine Qy rfl rfl rfl ?_; refine Qy rfl rfl rfl ?_; refine Qy rfl rfl rfl ?_; refine Qy rfl rfl rfl ?_; refine Qy rfl rfl rfl ?_; refine Qy rfl rfl rfl ?_; refine QK rfl rfl rfl rfl ?_; refine Qj (hK _ _ (Qz (Xx rfl (Q1 (Qz ?_))))); clear hK K; refine Qx (fun K hK => ?_); refine Qq rfl rfl rfl ?_; refine Qk (iadd (by omega) (by omega)) rfl rfl rfl rfl ?_; refine Qv rfl rfl rfl ?_; refine Qj (hK _ _ (Q3 ?_)); clear hK K)
      refine Q7 (i + 1) (by omega) (by omega) (by rw [hs]; exact Qu rfl ⟨rfl, rfl, by simp only [Int.natCast_add]; rfl, trivial⟩)
  · have hi' : i = l.length := by omega
    rw [hi', List.take_length]
    (refine Qn (Qz (Qw (Qx fun K hK => ?_))); refine Qq rfl rfl rfl ?_; refine Qv rfl rfl rfl ?_; refine Qj (hK _ _ (Qz (Q0 ?_))); clear hK K)
    refine QU [_] rfl (QQ rfl QX) rfl rfl
theorem gorAt : InGo Tryz.prog 42 := InGo.of Tryz.func42 rfl (by decide)
set_option maxHeartbeats 8000000 in
theorem rAt_ok (l : List Rs) (fl tt : Int) (hl : l.length ≤ 100000) : Ok Tryz.prog 42 [rssC l, intC fl, intC tt] (.fr (tupT [adrF (spV (lookG l) fl tt).1, intC (spV (lookG l) fl tt).2])) := by
  have hE := rEnd_ok l hl
  have e := lookG_key l fl tt
  generalize endF l = en at hE e
  generalize spV (lookG l) fl tt = out at e ⊢
  refine Ok.enter Tryz.func42 rfl _ Tryz.ntmps42 rfl ?_
  intro S w
  (refine Qw (Qx fun K hK => ?_); refine Qv rfl rfl rfl ?_; refine Qv rfl rfl rfl ?_; refine Qj (hK _ _ (Qz (Qw ?_))); clear hK K; refine Qx (fun K hK => ?_); refine Qq rfl rfl rfl ?_)
  refine QW gorEnd hE rfl rfl rfl rfl ?_
  refine Qv rfl rfl rfl ?_
  refine Qj (hK _ _ ?_)
  clear hK K
  refine Qz ?_
  refine Qw ?_
  refine Qx (fun K hK => ?_)
  refine Qv rfl rfl rfl ?_
  refine Qv rfl rfl rfl ?_
  refine Qj (hK _ _ ?_)
  clear hK K
  refine Qz ?_
  refine Qw ?_
  refine St.cutR (α := Unit) (fun _ => ¬ (0 < en ∧ en < tt)) (fun _ => [(0, .ct (rssC l)), (1, .ct (intC fl)), (2, .ct (intC tt)), (9, .ct (adrF 0)), (10, .ct (intC 0))]) (fun _ => []) (fun _ hc => ?_) (fun KN hM hR => ?_)
  rotate_left
  · (refine Qw (Qx fun K hK => ?_); refine Qq rfl rfl rfl ?_; refine Qk igtr rfl rfl rfl rfl ?_; refine Qq rfl rfl rfl ?_)
    refine Q5 17 rfl (fun g1 => ?_) (fun g1 => ?_)
    · (refine Qq rfl rfl rfl ?_; refine Qq rfl rfl rfl ?_; refine Qk igtr rfl rfl rfl rfl ?_; refine QZ rfl rfl rfl rfl ?_; refine Qj (hK _ _ (Qz ?_)); clear hK K)
      refine Q2 rfl (fun g2 => ?_) (fun g2 => ?_)
      · rw [if_pos ⟨g1, g2⟩] at e
        (refine Qw (Qx fun K hK => ?_); refine Qv rfl rfl rfl ?_; refine Qv rfl rfl rfl ?_; refine Qj (hK _ _ (Qz (Q0 ?_))); clear hK K)
        exact Fin.up hR (QU [_, _] rfl (QQ rfl (QQ rfl QX)) (by rw [e]; rfl) rfl)
      · (refine Q1 ?_)
        exact Qt hM () (fun h => g2 h.2) (Qu rfl ⟨rfl, rfl, rfl, rfl, rfl, trivial⟩)
    · (refine Qy rfl rfl rfl ?_; refine Qy rfl rfl rfl ?_; refine Qy rfl rfl rfl ?_; refine QK rfl rfl rfl rfl ?_; refine Qj (hK _ _ (Qz (Xx rfl (Q1 ?_)))); clear hK K)
      exact Qt hM () (fun h => g1 h.1) (Qu rfl ⟨rfl, rfl, rfl, rfl, rfl, trivial⟩)
  rw [if_neg hc] at e
  (refine Qw (Qw (Qx fun K hK => ?_)); refine Qv rfl rfl rfl ?_; refine Qj (hK _ _ (Qz (Q4 ?_))); clear hK K)
  refine Xz (α := Nat × _root_.Fin 4294967296 × Int) (fun q => q.1 ≤ l.length ∧ 0 ≤ q.2.2 ∧ q.2.2 ≤ 2 ∧ out = (l.drop q.1).foldl (kS fl tt) q.2)
    (fun q => [(0, .ct (rssC l)), (1, .ct (intC fl)), (2, .ct (intC tt)), (9, .ct (adrF q.2.1)), (10, .ct (intC q.2.2)), (11, .ct (intC q.1))]) (fun _ => []) (fun q => l.length - q.1) (0, 0, 0) ⟨Nat.zero_le _, by decide, by decide, e⟩ (by exact Qu rfl ⟨rfl, rfl, rfl, rfl, rfl, rfl, trivial⟩) ?_
  intro ⟨i, a, st⟩ ⟨hi, hs0, hs2, hq⟩
  try dsimp only at hi hs0 hs2 hq ⊢
  (refine Qw (Qw (Qx fun K hK => ?_)); refine Qq rfl rfl rfl ?_; refine Qq rfl rfl rfl ?_; refine Qd rfl rfl (by with_reducible exact sRes.und) (List.length_map ..) rfl ?_; refine Qk ilss rfl rfl rfl rfl ?_; refine Qj (hK _ _ (Qz ?_)); clear hK K)
  refine Q2 rfl (fun h => ?_) (fun h => ?_)
  · have e2 : (i : Int).toNat = i := Int.toNat_natCast i
    rw [drop_getD (z := rs0) (show i < l.length by omega), List.foldl_cons] at hq
    (refine Q1 (Qz (Qw (Q4 (Qw (Qx fun K hK => ?_))))); refine Qq rfl rfl rfl ?_; refine Qq rfl rfl rfl ?_; refine Qg rfl rfl rfl (by with_reducible exact sRes) (by omega) (Xa (by omega) (by omega)) rfl ?_; refine XZ (n := 17) rfl rfl rfl (by with_reducible exact lRes) rfl rfl ?_; refine Qh 0 rfl rfl (by with_reducible exact zvRes) rfl rfl rfl ?_; refine Qe 17 rfl rfl rfl rfl rfl (by with_reducible exact szRes) rfl rfl ?_; refine Qj (hK _ _ (Qz (Qw (Qw ?_)))); clear hK K; refine Qx (fun K hK => ?_); refine Qa (n := 17) rfl rfl rfl rfl rfl (by with_reducible exact lRes) rfl ?_)
    rw [e2]
    generalize l.getD i rs0 = x at hq
    skip
    have hU := rUsable_ok x
    refine QW gorUsable hU rfl rfl rfl rfl ?_
    rw [show kS fl tt (a, st) x = if usR x = false ∨ ¬ x.fl = fl ∨ ¬ x.tt = tt then (a, st) else if x.an = false then (a, max st 1) else if st ≤ 1 then (x.fr, 2) else if st = 2 ∧ a ≠ x.fr then (0, 3) else (a, st) from rfl] at hq
    (refine Qp rfl rfl rfl ?_; refine Qq rfl rfl rfl ?_)
    refine X3 35 (b := !usR x) rfl (fun g1 => ?_) (fun g1 => ?_)
    · rw [if_pos (.inl (by simpa using g1))] at hq
      (refine Qy rfl rfl rfl ?_; refine Qy rfl rfl rfl ?_; refine Qy rfl rfl rfl ?_; refine Qy rfl rfl rfl ?_; refine QZ rfl rfl rfl rfl ?_; refine Qq rfl rfl rfl ?_; refine Qy rfl rfl rfl ?_; refine Qy rfl rfl rfl ?_; refine Qy rfl rfl rfl ?_; refine Qy rfl rfl rfl ?_; refine QZ rfl rfl rfl rfl ?_; refine Qj (hK _ _ (Qz (Qo rfl (Qn (Qz ?_))))); clear hK K; refine Qx (fun K hK => ?_); refine Qq rfl rfl rfl ?_; refine Qk (iadd (by omega) (by omega)) rfl rfl rfl rfl ?_; refine Qv rfl rfl rfl ?_; refine Qj (hK _ _ (Q3 ?_)); clear hK K)
      refine Qm 0 ?_
      refine Q7 (i + 1, a, st) (by dsimp only; omega) ⟨by dsimp only; omega, by dsimp only; omega, by dsimp only; omega, by dsimp only; exact hq⟩ (by exact Qu rfl ⟨rfl, rfl, rfl, rfl, rfl, by simp only [Int.natCast_add]; rfl, trivial⟩)
    have g1 : usR x = true := by simpa using g1
    (refine QV rfl rfl rfl (by with_reducible first | exact fS0 | exact fS1 | exact fS2 | exact fS3 | exact fS4 | exact fS5 | exact fS6 | exact fS7 | exact fS8 | exact fS9 | exact fS10 | exact fS11 | exact fN0 | exact fN1 | exact fN2 | exact fN3 | exact fN4 | exact fN5) rfl ?_; refine QJ rfl rfl rfl rfl rfl (by with_reducible first | exact lInt | exact Q9 | exact Q6 | exact lRess) rfl ?_; refine Qq rfl rfl rfl ?_; refine Qk ineq rfl rfl rfl rfl ?_; refine QK rfl rfl rfl rfl ?_; refine Qq rfl rfl rfl ?_)
    refine Q5 41 rfl (fun g2 => ?_) (fun g2 => ?_)
    · rw [if_pos (.inr (.inl g2))] at hq
      (refine Qy rfl rfl rfl ?_; refine Qy rfl rfl rfl ?_; refine Qy rfl rfl rfl ?_; refine Qy rfl rfl rfl ?_; refine QZ rfl rfl rfl rfl ?_; refine Qj (hK _ _ (Qz (Qo rfl (Qn (Qz ?_))))); clear hK K; refine Qx (fun K hK => ?_); refine Qq rfl rfl rfl ?_; refine Qk (iadd (by omega) (by omega)) rfl rfl rfl rfl ?_; refine Qv rfl rfl rfl ?_; refine Qj (hK _ _ (Q3 ?_)); clear hK K)
      refine Qm 0 ?_
      refine Q7 (i + 1, a, st) (by dsimp only; omega) ⟨by dsimp only; omega, by dsimp only; omega, by dsimp only; omega, by dsimp only; exact hq⟩ (by exact Qu rfl ⟨rfl, rfl, rfl, rfl, rfl, by simp only [Int.natCast_add]; rfl, trivial⟩)
    have g2 : x.fl = fl := Decidable.byContradiction g2
    (refine QV rfl rfl rfl (by with_reducible first | exact fS0 | exact fS1 | exact fS2 | exact fS3 | exact fS4 | exact fS5 | exact fS6 | exact fS7 | exact fS8 | exact fS9 | exact fS10 | exact fS11 | exact fN0 | exact fN1 | exact fN2 | exact fN3 | exact fN4 | exact fN5) rfl ?_; refine QJ rfl rfl rfl rfl rfl (by with_reducible first | exact lInt | exact Q9 | exact Q6 | exact lRess) rfl ?_; refine Qq rfl rfl rfl ?_; refine Qk ineq rfl rfl rfl rfl ?_; refine QK rfl rfl rfl rfl ?_; refine Qj (hK _ _ (Qz ?_)); clear hK K)
    refine Q2 rfl (fun g3 => ?_) (fun g3 => ?_)
    · rw [if_pos (.inr (.inr g3))] at hq
      (refine Qn (Qz (Qx fun K hK => ?_)); refine Qq rfl rfl rfl ?_; refine Qk (iadd (by omega) (by omega)) rfl rfl rfl rfl ?_; refine Qv rfl rfl rfl ?_; refine Qj (hK _ _ (Q3 ?_)); clear hK K)
      refine Qm 0 ?_
      refine Q7 (i + 1, a, st) (by dsimp only; omega) ⟨by dsimp only; omega, by dsimp only; omega, by dsimp only; omega, by dsimp only; exact hq⟩ (by exact Qu rfl ⟨rfl, rfl, rfl, rfl, rfl, by simp only [Int.natCast_add]; rfl, trivial⟩)
    have g3 : x.tt = tt := Decidable.byContradiction g3
    rw [if_neg (fun h => h.elim (fun h => by rw [g1] at h; cases h) (fun h => h.elim (fun h => h g2) (fun h => h g3)))] at hq
    (refine Q1 (Qz (Q4 (Qw (Qx fun K hK => ?_)))); refine QV rfl rfl rfl (by with_reducible first | exact fS0 | exact fS1 | exact fS2 | exact fS3 | exact fS4 | exact fS5 | exact fS6 | exact fS7 | exact fS8 | exact fS9 | exact fS10 | exact fS11 | exact fN0 | exact fN1 | exact fN2 | exact fN3 | exact fN4 | exact fN5) rfl ?_; refine QJ rfl rfl rfl rfl rfl (by with_reducible first | exact lInt | exact Q9 | exact Q6 | exact lRess) rfl ?_; refine Qp rfl rfl rfl ?_; refine Qv rfl rfl rfl ?_; refine Qj (hK _ _ (Qz ?_)); clear hK K)
    refine XX rfl (fun g4 => ?_) (fun g4 => ?_)
    · rw [if_pos (by simpa using g4)] at hq
      (refine Qw (Qx fun K hK => ?_); refine Qq rfl rfl rfl ?_; refine Qk ieql rfl rfl rfl rfl ?_; refine Qj (hK _ _ (Qz ?_)); clear hK K)
      refine Q2 rfl (fun g5 => ?_) (fun g5 => ?_)
      · rw [show max st 1 = 1 by omega] at hq
        (refine Qx (fun K hK => ?_); refine Qv rfl rfl rfl ?_; refine Qj (hK _ _ (Qz ?_)); clear hK K; refine Qx (fun K hK => ?_); refine Qq rfl rfl rfl ?_; refine Qk (iadd (by omega) (by omega)) rfl rfl rfl rfl ?_; refine Qv rfl rfl rfl ?_; refine Qj (hK _ _ (Q3 ?_)); clear hK K)
        refine Qm 0 ?_
        refine Q7 (i + 1, a, (1 : Int)) (by dsimp only; omega) ⟨by dsimp only; omega, by dsimp only; omega, by dsimp only; omega, by dsimp only; exact hq⟩ (by exact Qu rfl ⟨rfl, rfl, rfl, rfl, rfl, by simp only [Int.natCast_add]; rfl, trivial⟩)
      · rw [show max st 1 = st by omega] at hq
        (refine Q1 (Qz (Qx fun K hK => ?_)); refine Qq rfl rfl rfl ?_; refine Qk (iadd (by omega) (by omega)) rfl rfl rfl rfl ?_; refine Qv rfl rfl rfl ?_; refine Qj (hK _ _ (Q3 ?_)); clear hK K)
        refine Qm 0 ?_
        refine Q7 (i + 1, a, st) (by dsimp only; omega) ⟨by dsimp only; omega, by dsimp only; omega, by dsimp only; omega, by dsimp only; exact hq⟩ (by exact Qu rfl ⟨rfl, rfl, rfl, rfl, rfl, by simp only [Int.natCast_add]; rfl, trivial⟩)
    rw [if_neg (by simpa using g4)] at hq
    (refine Qw (Qx fun K hK => ?_); refine Qq rfl rfl rfl ?_; refine Qk ieql rfl rfl rfl rfl ?_; refine Qq rfl rfl rfl ?_)
    refine Q5 59 rfl (fun g5 => ?_) (fun g5 => ?_)
    · rw [if_neg (show ¬ st ≤ 1 by omega)] at hq
      (refine Qq rfl rfl rfl ?_; refine QV rfl rfl rfl (by with_reducible first | exact fS0 | exact fS1 | exact fS2 | exact fS3 | exact fS4 | exact fS5 | exact fS6 | exact fS7 | exact fS8 | exact fS9 | exact fS10 | exact fS11 | exact fN0 | exact fN1 | exact fN2 | exact fN3 | exact fN4 | exact fN5) rfl ?_; refine X2 rfl rfl (by with_reducible first | exact fN0 | exact fN1 | exact fN2 | exact fN3 | exact fN4 | exact fN5) rfl ?_; refine QJ rfl rfl rfl rfl rfl (by with_reducible first | exact lInt | exact Q9 | exact Q6 | exact lRess) rfl ?_; refine Qk ineq rfl rfl rfl rfl ?_; refine QZ rfl rfl rfl rfl ?_; refine Qv rfl rfl rfl ?_; refine Qj (hK _ _ (Qz ?_)); clear hK K)
      refine Q2 rfl (fun g6 => ?_) (fun g6 => ?_)
      · rw [if_pos ⟨g5, fun h => g6 (by have h : a = x.fr := h; rw [h])⟩, kS_mixed] at hq
        (refine Qw (Qx fun K hK => ?_); refine Qv rfl rfl rfl ?_; refine Qv rfl rfl rfl ?_; refine Qj (hK _ _ (Qz (Q0 (Q8 (Q8 (QY (QY (Q8 (QY ?_))))))))); clear hK K)
        refine QU [_, _] rfl (QQ rfl (QQ rfl QX)) (by rw [hq]; rfl) rfl
      · have ha : a = x.fr := _root_.Fin.ext (by omega)
        rw [if_neg (fun h => h.2 ha), g5, ha] at hq
        (refine Qx (fun K hK => ?_); refine QV rfl rfl rfl (by with_reducible first | exact fS0 | exact fS1 | exact fS2 | exact fS3 | exact fS4 | exact fS5 | exact fS6 | exact fS7 | exact fS8 | exact fS9 | exact fS10 | exact fS11 | exact fN0 | exact fN1 | exact fN2 | exact fN3 | exact fN4 | exact fN5) rfl ?_; refine X2 rfl rfl (by with_reducible first | exact fN0 | exact fN1 | exact fN2 | exact fN3 | exact fN4 | exact fN5) rfl ?_; refine QJ rfl rfl rfl rfl rfl (by with_reducible first | exact lInt | exact Q9 | exact Q6 | exact lRess) rfl ?_; refine Qv rfl rfl rfl ?_; refine Qv rfl rfl rfl ?_; refine Qj (hK _ _ (Qz ?_)); clear hK K; refine Qx (fun K hK => ?_); refine Qq rfl rfl rfl ?_; refine Qk (iadd (by omega) (by omega)) rfl rfl rfl rfl ?_; refine Qv rfl rfl rfl ?_; refine Qj (hK _ _ (Q3 ?_)); clear hK K)
        refine Qm 0 ?_
        refine Q7 (i + 1, x.fr, (2 : Int)) (by dsimp only; omega) ⟨by dsimp only; omega, by dsimp only; omega, by dsimp only; omega, by dsimp only; exact hq⟩ (by exact Qu rfl ⟨rfl, rfl, rfl, rfl, rfl, by simp only [Int.natCast_add]; rfl, trivial⟩)
    · rw [if_pos (show st ≤ 1 by omega)] at hq
      (refine Qy rfl rfl rfl ?_; refine Qy rfl rfl rfl ?_; refine Qy rfl rfl rfl ?_; refine Qy rfl rfl rfl ?_; refine Qy rfl rfl rfl ?_; refine QK rfl rfl rfl rfl ?_; refine Qv rfl rfl rfl ?_; refine Qj (hK _ _ (Qz (Xx rfl ?_))); clear hK K; refine Qx (fun K hK => ?_); refine QV rfl rfl rfl (by with_reducible first | exact fS0 | exact fS1 | exact fS2 | exact fS3 | exact fS4 | exact fS5 | exact fS6 | exact fS7 | exact fS8 | exact fS9 | exact fS10 | exact fS11 | exact fN0 | exact fN1 | exact fN2 | exact fN3 | exact fN4 | exact fN5) rfl ?_; refine X2 rfl rfl (by with_reducible first | exact fN0 | exact fN1 | exact fN2 | exact fN3 | exact fN4 | exact fN5) rfl ?_; refine QJ rfl rfl rfl rfl rfl (by with_reducible first | exact lInt | exact Q9 | exact Q6 | exact lRess) rfl ?_; refine Qv rfl rfl rfl ?_; refine Qv rfl rfl rfl ?_; refine Qj (hK _ _ (Qz ?_)); clear hK K; refine Qx (fun K hK => ?_); refine Qq rfl rfl rfl ?_; refine Qk (iadd (by omega) (by omega)) rfl rfl rfl rfl ?_; refine Qv rfl rfl rfl ?_; refine Qj (hK _ _ (Q3 ?_)); clear hK K)
      refine Qm 0 ?_
      refine Q7 (i + 1, x.fr, (2 : Int)) (by dsimp only; omega) ⟨by dsimp only; omega, by dsimp only; omega, by dsimp only; omega, by dsimp only; exact hq⟩ (by exact Qu rfl ⟨rfl, rfl, rfl, rfl, rfl, by simp only [Int.natCast_add]; rfl, trivial⟩)
  · have hi' : i = l.length := by omega
    rw [hi', List.drop_length] at hq
    (refine Qn (Qz (Qw (Qx fun K hK => ?_))); refine Qq rfl rfl rfl ?_; refine Qq rfl rfl rfl ?_; refine Qv rfl rfl rfl ?_; refine Qv rfl rfl rfl ?_; refine Qj (hK _ _ (Qz (Q0 ?_))); clear hK K)
    refine QU [_, _] rfl (QQ rfl (QQ rfl QX)) (by rw [hq]; rfl) rfl
theorem gorPath : InGo Tryz.prog 14 := InGo.of Tryz.func14 rfl (by decide)
set_option maxHeartbeats 4000000 in
theorem rPath_ok (l : List Rs) (fl : Int) (hl : l.length ≤ 100000) : OkF Tryz.prog 14 [rssC l, intC fl] 27 1 (adrs (pathF l fl)) := by
  have hA := fun tt => rAt_ok l fl tt hl
  have hb : ∀ tt, hasS (lookG l).2 fl tt = true → 1 ≤ tt ∧ tt ≤ 255 := fun tt h => hasS_tt h
  have e0 : pathF l fl = pathG (lookG l) fl 256 1 := rfl
  rw [e0]
  clear e0
  generalize lookG l = m at hA hb ⊢
  refine OkF.enter Tryz.func14 rfl _ Tryz.ntmps14 rfl ?_
  intro S w
  (refine Qw (Qx fun K hK => ?_); refine Qv rfl rfl rfl ?_; refine Qj (hK _ _ (Qz (Qw ?_))); clear hK K; refine Qx (fun K hK => ?_); refine Qv rfl rfl rfl ?_; refine Qj (hK _ _ (Qz (Qw ?_))); clear hK K; refine Qx (fun K hK => ?_); refine Qv rfl rfl rfl ?_; refine Qj (hK _ _ (Qz (Q4 ?_))); clear hK K)
  refine Xf 5 1 27 1 rfl rfl rfl ?_
  refine Xz (α := List Ad) (fun pre => pre.length ≤ 255 ∧ pathG m fl 256 1 = pre ++ pathG m fl (256 - pre.length) (pre.length + 1))
    (fun pre => [(0, .ct (rssC l)), (1, .ct (intC fl)), (5, .own 1), (6, .ct (intC (pre.length + 1)))])
    (fun pre => [(1, .row 27 1 (adrs pre))]) (fun pre => 256 - pre.length) [] ⟨Nat.zero_le _, rfl⟩ (by exact Qu rfl ⟨rfl, rfl, rfl, rfl, trivial⟩) ?_
  intro pre ⟨hp, hq⟩
  try dsimp only
  have hH := hA (pre.length + 1)
  have hb1 := hb (pre.length + 1)
  have hun : ∀ k, pathG m fl (k + 1) (pre.length + 1) = if hasS m.2 fl (pre.length + 1) then (look1 m.1 (fl, (pre.length : Int) + 1)).getD 0 :: pathG m fl k (pre.length + 1 + 1) else [] := fun _ => rfl
  have hh : hasS m.2 fl (pre.length + 1) = (decide ((spV m fl (pre.length + 1)).2 = 2) || decide ((spV m fl (pre.length + 1)).2 = 1)) := rfl
  have ha : (look1 m.1 (fl, (pre.length : Int) + 1)).getD 0 = (spV m fl (pre.length + 1)).1 := rfl
  rw [ha] at hun
  generalize spV m fl (pre.length + 1) = s at hH hun hh
  obtain ⟨a, st⟩ := s
  dsimp only at hH hun hh
  generalize hasS m.2 fl (pre.length + 1) = hs at hb1 hun hh
  obtain ⟨k, hk⟩ : ∃ k, 256 - pre.length = k + 1 := ⟨255 - pre.length, by omega⟩
  rw [hk, hun] at hq
  (refine Qw (Q4 (Qw (Qx fun K hK => ?_))); refine Qq rfl rfl rfl ?_; refine Qq rfl rfl rfl ?_; refine Qq rfl rfl rfl ?_)
  refine QW gorAt hH rfl rfl rfl rfl ?_
  (refine Qq rfl rfl rfl ?_; refine Qf rfl rfl rfl rfl ?_; refine Qf rfl rfl rfl rfl ?_; refine Qv rfl rfl rfl ?_; refine Qv rfl rfl rfl ?_; refine Qj (hK _ _ (Qz (Qw (Qw ?_)))); clear hK K; refine Qx (fun K hK => ?_); refine Qq rfl rfl rfl ?_; refine Qk ineq rfl rfl rfl rfl ?_; refine Qq rfl rfl rfl ?_)
  refine Q5 20 rfl (fun h1 => ?_) (fun h1 => ?_)
  · (refine Qq rfl rfl rfl ?_; refine Qk ineq rfl rfl rfl rfl ?_; refine QZ rfl rfl rfl rfl ?_; refine Qj (hK _ _ (Qz ?_)); clear hK K)
    refine Q2 rfl (fun h2 => ?_) (fun h2 => ?_)
    · rw [hh, decide_eq_false h1, decide_eq_false h2, if_neg (by decide), List.append_nil] at hq
      (refine Qw (Qx fun K hK => ?_); refine Qq rfl rfl rfl ?_; refine Qv rfl rfl rfl ?_; refine Qj (hK _ _ (Qz (Q0 (QY (Q8 (QY (QY (Q8 ?_)))))))); clear hK K)
      refine Fin.retF rfl rfl (by rw [hq]; rfl) rfl
    · have h2 : st = 1 := Decidable.byContradiction h2
      have hs' : hs = true := by rw [hh, decide_eq_true h2, Bool.or_true]
      have hl2 := hb1 hs'
      rw [hs', if_pos rfl] at hq
      (refine Q1 (Qz (Qx fun K hK => ?_)); refine Qq rfl rfl rfl ?_; refine Qq rfl rfl rfl ?_)
      refine Xp rfl rfl (by with_reducible exact sAdrs) rfl rfl rfl ?_
      refine Qs pre.length (adrs (pre ++ [a])) rfl rfl rfl rfl (by with_reducible exact sAdrs) (by simp [adrs]) rfl (by omega) (by omega) (by simp [adrs]) rfl ?_
      (refine Qv rfl rfl rfl ?_; refine Qj (hK _ _ (Qz ?_)); clear hK K; refine Qx (fun K hK => ?_); refine Qq rfl rfl rfl ?_; refine Qk (iadd (by omega) (by omega)) rfl rfl rfl rfl ?_; refine Qv rfl rfl rfl ?_; refine Qj (hK _ _ (Q3 ?_)); clear hK K)
      refine Q7 (pre ++ [a]) (by rw [List.length_append]; simp; omega) ⟨by rw [List.length_append]; simp; omega, ?_⟩ (by exact Qu rfl ⟨rfl, rfl, rfl, by simp only [List.length_append, List.length_cons, List.length_nil, Nat.zero_add, Int.natCast_add]; rfl, trivial⟩)
      rw [hq, List.length_append, List.append_assoc]
      have : 256 - (pre.length + [a].length) = k := by simp; omega
      rw [this]
      simp
  · have h1 : st = 2 := Decidable.byContradiction h1
    have hs' : hs = true := by rw [hh, decide_eq_true h1, Bool.true_or]
    have hl2 := hb1 hs'
    rw [hs', if_pos rfl] at hq
    (refine Qy rfl rfl rfl ?_; refine Qy rfl rfl rfl ?_; refine QK rfl rfl rfl rfl ?_; refine Qj (hK _ _ (Qz (Xx rfl (Q1 (Qz ?_))))); clear hK K; refine Qx (fun K hK => ?_); refine Qq rfl rfl rfl ?_; refine Qq rfl rfl rfl ?_)
    refine Xp rfl rfl (by with_reducible exact sAdrs) rfl rfl rfl ?_
    refine Qs pre.length (adrs (pre ++ [a])) rfl rfl rfl rfl (by with_reducible exact sAdrs) (by simp [adrs]) rfl (by omega) (by omega) (by simp [adrs]) rfl ?_
    (refine Qv rfl rfl rfl ?_; refine Qj (hK _ _ (Qz ?_)); clear hK K; refine Qx (fun K hK => ?_); refine Qq rfl rfl rfl ?_; refine Qk (iadd (by omega) (by omega)) rfl rfl rfl rfl ?_; refine Qv rfl rfl rfl ?_; refine Qj (hK _ _ (Q3 ?_)); clear hK K)
    refine Q7 (pre ++ [a]) (by rw [List.length_append]; simp; omega) ⟨by rw [List.length_append]; simp; omega, ?_⟩ (by exact Qu rfl ⟨rfl, rfl, rfl, by simp only [List.length_append, List.length_cons, List.length_nil, Nat.zero_add, Int.natCast_add]; rfl, trivial⟩)
    rw [hq, List.length_append, List.append_assoc]
    have : 256 - (pre.length + [a].length) = k := by simp; omega
    rw [this]
    simp
end Go.Proofs.YtlkdkbdgnjcopaaGreat
namespace Go.Proofs.YtlkdkbdgnjcopaaGreat
open Go.Own Go.Limbs
def chkF (l : List Rs) : Int := if (l.any fun r => !okR r) = true then 1 else if 512 < ((sd cmpR (l.filter okR)).length : Int) then 5 else if consB l = true then 0 else 30
def crsF (l : List Rs) (w : Wr) (b : Bool) : List Rs := (sd cmpR (l.filter okR)).filter fun r => decide (w ∈ wayF l r) && (r.an == b)
structure Cn where
  wr : Wr
  se : Int
  lo : Int
  hi : Int
deriving DecidableEq
def cn0 : Cn := ⟨(0, 0), 0, 0, 0⟩
def cntF (l : List Rs) (w : Wr) (b : Int) : Cn × Int :=
  if b < 0 ∨ 1048576 < b then (cn0, 1)
  else if chkF l ≠ 0 then (cn0, chkF l)
  else if (crsF l w true).length + (crsF l w false).length = 0 then (cn0, 8)
  else (⟨w, ((crsF l w true).length : Int) + (crsF l w false).length, max 0 ((crsF l w false).length - b), (crsF l w false).length⟩, 0)
def adN (t : Int) : Fin 4294967296 := ⟨t.toNat % 4294967296, Nat.mod_lt _ (by decide)⟩
theorem adN_val {t : Int} (h : 0 ≤ t) (h2 : t < 4294967296) : ((adN t).val : Int) = t := by unfold adN; simp only; omega
def chF : Nat → Int → List (Fin 4294967296)
  | 0, _ => []
  | c + 1, t => adN t :: chF c (t + 1)
structure Chain (n : Nat) (t0 : Tk) (l : List Rs) : Prop where
  up : Up cmpR l
  ok : ∀ r ∈ l, okR r = true ∧ r.db = false ∧ r.fl = 0 ∧ trOf r = t0 ∧ 1 ≤ r.tt ∧ r.tt ≤ n ∧ (r.an = true → r.ki = 1 ∧ r.fr = adN r.tt)
  all : ∀ t : Int, 1 ≤ t → t ≤ n → ∃ r ∈ l, r.an = true ∧ r.tt = t
variable {n : Nat} {t0 : Tk} {l : List Rs}
theorem endF_zero : ∀ (l : List Rs) (e : Int), (∀ r ∈ l, fiR r = false) → l.foldl endS e = e
  | [], _, _ => rfl
  | r :: l, e, h => by
    have h1 : endS e r = e := by unfold endS; rw [if_neg (by rw [h r (List.mem_cons_self ..)]; simp)]
    rw [List.foldl_cons, h1]
    exact endF_zero l e fun x hx => h x (List.mem_cons_of_mem _ hx)
abbrev stV (m : AdM × StM) (t : Int) : Int := (look1 m.2 (0, t)).getD 0
def invM (m : AdM × StM) : Prop := ∀ t : Int, stV m t ≤ 1 ∨ (stV m t = 2 ∧ look1 m.1 (0, t) = some (adN t))
theorem look_chain : ∀ (q : List Rs) (m : AdM × StM), (∀ r ∈ q, usR r = true ∧ r.fl = 0 ∧ (r.an = true → r.fr = adN r.tt)) → invM m →
    invM (q.foldl (lookS 0) m) ∧ ∀ t, (stV m t = 2 ∨ ∃ r ∈ q, r.an = true ∧ r.tt = t) → stV (q.foldl (lookS 0) m) t = 2
  | [], m, _, hm => ⟨hm, fun t h => h.elim id fun ⟨_, h, _⟩ => by cases h⟩
  | r :: q, m, hq, hm => by
    obtain ⟨h1, h2, h3⟩ := hq r (List.mem_cons_self ..)
    have key : invM (lookS 0 m r) ∧ ∀ t, (stV m t = 2 ∨ (r.an = true ∧ r.tt = t)) → stV (lookS 0 m r) t = 2 := by
      unfold lookS
      rw [if_neg (by rw [h1]; simp), h2]
      cases ha : r.an with
      | false =>
        rw [if_pos rfl]
        refine ⟨fun t => ?_, fun t h => ?_⟩
        · simp only [stV, Xr]
          have := hm t
          by_cases e : t = r.tt
          · subst e
            rw [if_pos rfl]
            simp only [Option.getD_some]
            unfold stV at this
            rcases this with h | ⟨h, h'⟩
            · left; omega
            · right; exact ⟨by omega, h'⟩
          · rw [if_neg (by intro h; injection h with _ h; exact e h)]
            exact this
        · simp only [stV, Xr]
          rcases h with h | ⟨h, _⟩
          · by_cases e : t = r.tt
            · subst e
              rw [if_pos rfl]
              simp only [Option.getD_some]
              unfold stV at h
              omega
            · rw [if_neg (by intro h; injection h with _ h; exact e h)]; exact h
          · cases h
      | true =>
        rw [if_neg (by decide)]
        have h4 := h3 ha
        have hr := hm r.tt
        unfold stV at hr
        by_cases hs : (look1 m.2 (0, r.tt)).getD 0 ≤ 1
        · rw [if_pos hs]
          refine ⟨fun t => ?_, fun t h => ?_⟩
          · simp only [stV, Xr]
            by_cases e : t = r.tt
            · subst e
              rw [if_pos rfl, if_pos rfl, h4]
              right; exact ⟨rfl, rfl⟩
            · rw [if_neg (by intro h; injection h with _ h; exact e h), if_neg (by intro h; injection h with _ h; exact e h)]
              exact hm t
          · simp only [stV, Xr]
            by_cases e : t = r.tt
            · subst e; rw [if_pos rfl]; rfl
            · rw [if_neg (by intro h; injection h with _ h; exact e h)]
              rcases h with h | ⟨_, h⟩
              · exact h
              · exact absurd h.symm e
        · rw [if_neg hs]
          rcases hr with hr | ⟨hr, hr'⟩
          · exact absurd hr hs
          · rw [if_neg (by rw [hr', h4]; simp)]
            refine ⟨hm, fun t h => ?_⟩
            rcases h with h | ⟨_, h⟩
            · exact h
            · subst h; exact hr
    obtain ⟨k1, k2⟩ := key
    obtain ⟨i1, i2⟩ := look_chain q (lookS 0 m r) (fun x hx => hq x (List.mem_cons_of_mem _ hx)) k1
    refine ⟨i1, fun t h => i2 t ?_⟩
    rcases h with h | ⟨x, hx, h⟩
    · exact .inl (k2 t (.inl h))
    · rcases List.mem_cons.1 hx with rfl | hx
      · exact .inl (k2 t (.inr h))
      · exact .inr ⟨x, hx, h⟩
theorem Chain.us (h : Chain n t0 l) {r : Rs} (hr : r ∈ l) : usR r = true := by
  obtain ⟨h1, h2, _⟩ := h.ok r hr
  unfold usR; rw [h1, h2]; rfl
theorem Chain.fi (h : Chain n t0 l) : ∀ r ∈ l, fiR r = false := fun r hr => by
  obtain ⟨_, _, _, _, _, _, h3⟩ := h.ok r hr
  unfold fiR
  cases ha : r.an with
  | false => rfl
  | true => rw [(h3 ha).1]; rfl
theorem Chain.look (h : Chain n t0 l) : lookG l = l.foldl (lookS 0) ([], []) := by
  have h1 : endF l = 0 := endF_zero l 0 h.fi
  unfold lookG; rw [h1]
theorem pathG_chain {m : AdM × StM} (h1 : ∀ t : Int, 1 ≤ t → t ≤ n → stV m t = 2 ∧ look1 m.1 (0, t) = some (adN t)) (h2 : hasS m.2 0 (n + 1) = false) :
    ∀ (c k : Nat) (t : Int), 1 ≤ t → t + c = n + 1 → c < k → pathG m 0 k t = chF c t
  | 0, k + 1, t, _, he, _ => by
    unfold pathG
    have : t = (n : Int) + 1 := by omega
    rw [this, h2]; rfl
  | c + 1, k + 1, t, ht, he, hk => by
    obtain ⟨a1, a2⟩ := h1 t ht (by omega)
    have : hasS m.2 0 t = true := by unfold hasS; unfold stV at a1; rw [a1]; rfl
    unfold pathG chF
    rw [if_pos this, a2, pathG_chain h1 h2 c k (t + 1) (by omega) (by omega) (by omega)]
    rfl
  | _, 0, _, _, _, h => by omega
theorem Chain.path (h : Chain n t0 l) (hn : n < 256) : pathF l 0 = chF n 1 := by
  unfold pathF
  obtain ⟨i1, i2⟩ := look_chain l ([], []) (fun r hr => ⟨h.us hr, (h.ok r hr).2.2.1, fun ha => ((h.ok r hr).2.2.2.2.2.2 ha).2⟩) (fun t => .inl (by show (0 : Int) ≤ 1; decide))
  rw [← h.look] at i1 i2
  refine pathG_chain (n := n) (fun t h1 h2 => ?_) ?_ n 256 1 (by decide) (by omega) hn
  · have e := i2 t (.inr (h.all t h1 h2))
    refine ⟨e, ?_⟩
    rcases i1 t with h3 | h3
    · rw [e] at h3; exact absurd h3 (by decide)
    · exact h3.2
  · cases hb : hasS (lookG l).2 0 (n + 1) with
    | false => rfl
    | true =>
      unfold hasS at hb
      cases e : look1 (lookG l).2 (0, (n : Int) + 1) with
      | none => rw [e] at hb; simp at hb
      | some v =>
        obtain ⟨_, r, hr, _, hs⟩ := lookG_keys l _ _ e
        injection hs with _ hs
        have := (h.ok r hr).2.2.2.2.2.1
        omega
theorem Chain.sd (h : Chain n t0 l) : sd cmpR (l.filter okR) = l := by
  have : l.filter okR = l := List.filter_eq_self.2 fun r hr => (h.ok r hr).1
  rw [this]; exact sd_eq ordR h.up
def wk (k : Int) : Wr := (adN (k - 1), adN k)
theorem Chain.way (h : Chain n t0 l) (hn : n ≤ 3) {r : Rs} (hr : r ∈ l) {k : Int} (h1 : 1 ≤ k) (h2 : k ≤ n) : decide (wk k ∈ wayF l r) = decide (k ≤ r.tt) := by
  obtain ⟨_, _, hf, ht, ha, hb, _⟩ := h.ok r hr
  have e : ((l.filter fun x => decide (trOf x = trOf r))) = l := List.filter_eq_self.2 fun x hx => by rw [(h.ok x hx).2.2.2.1, ht]; simp
  have hl : (chF n 1).length = n := by
    have : ∀ c t, (chF c t).length = c := fun c => by
      induction c with
      | zero => intro _; rfl
      | succ c ih => intro t; show (chF c (t + 1)).length + 1 = _; rw [ih]
    exact this n 1
  unfold wayF
  rw [if_neg (by rw [h.us hr]; simp), h.sd, e, hf, h.path (by omega)]
  simp only [hl]
  rw [if_pos hb]
  generalize r.tt = t at ha hb ⊢
  have hn' : n = 1 ∨ n = 2 ∨ n = 3 := by omega
  rcases hn' with rfl | rfl | rfl
  · have : t = 1 := by omega
    have : k = 1 := by omega
    subst_vars; decide
  · have ht : t = 1 ∨ t = 2 := by omega
    have hk : k = 1 ∨ k = 2 := by omega
    rcases ht with rfl | rfl <;> rcases hk with rfl | rfl <;> decide
  · have ht : t = 1 ∨ t = 2 ∨ t = 3 := by omega
    have hk : k = 1 ∨ k = 2 ∨ k = 3 := by omega
    rcases ht with rfl | rfl | rfl <;> rcases hk with rfl | rfl | rfl <;> decide
theorem clash_chain : ∀ (q : List Rs) (m : SeenM), (∀ r ∈ q, r.an = true → r.fr = adN r.tt) → (∀ s v, look1 m s = some v → v = adN s.2.2) → clashG m q = q.length
  | [], _, _, _ => rfl
  | r :: q, m, hq, hm => by
    have ih := fun m' => clash_chain q m' fun x hx => hq x (List.mem_cons_of_mem _ hx)
    unfold clashG
    rw [List.length_cons]
    by_cases hp : plB r = false
    · rw [if_pos hp, ih m hm]
    · rw [if_neg hp]
      have ha : r.an = true := by
        unfold plB at hp
        cases h : r.an with
        | true => rfl
        | false => rw [h] at hp; exact absurd rfl hp
      have hr := hq r (List.mem_cons_self ..) ha
      rw [if_neg, ih]
      · intro s v hs
        rw [Xr] at hs
        split at hs
        · rename_i e; subst e; injection hs with hs; rw [← hs]; exact hr
        · exact hm s v hs
      · rintro ⟨h1, h2⟩
        obtain ⟨v, hv⟩ := Option.isSome_iff_exists.1 h1
        rw [hv] at h2
        exact h2 (by rw [hr]; exact hm _ v hv)
theorem Chain.cons (h : Chain n t0 l) : consB l = true := by
  unfold consB witG
  rw [h.sd, clash_chain l [] (fun r hr ha => ((h.ok r hr).2.2.2.2.2.2 ha).2) (fun _ _ h => by cases h)]
  simp
theorem Chain.chk (h : Chain n t0 l) (hl : l.length ≤ 512) : chkF l = 0 := by
  unfold chkF
  rw [if_neg, h.sd, if_neg (by omega), if_pos h.cons]
  intro h'
  obtain ⟨r, hr, h1⟩ := List.any_eq_true.1 h'
  rw [(h.ok r hr).1] at h1; cases h1
theorem Chain.crs (h : Chain n t0 l) (hn : n ≤ 3) {k : Int} (h1 : 1 ≤ k) (h2 : k ≤ n) (b : Bool) : (crsF l (wk k) b).length = l.countP fun r => decide (k ≤ r.tt) && (r.an == b) := by
  unfold crsF
  rw [h.sd, ← List.countP_eq_length_filter]
  exact List.countP_congr fun r hr => by rw [h.way hn hr h1 h2]
theorem Chain.cnt (h : Chain n t0 l) (hn : n ≤ 3) (hl : l.length ≤ 512) {k b : Int} (h1 : 1 ≤ k) (h2 : k ≤ n) (hb : 0 ≤ b) (hb2 : b ≤ 1048576) :
    cntF l (wk k) b = (⟨wk k, ((l.countP fun r => decide (k ≤ r.tt) && (r.an == true) : Nat) : Int) + (l.countP fun r => decide (k ≤ r.tt) && (r.an == false) : Nat), max 0 ((l.countP fun r => decide (k ≤ r.tt) && (r.an == false) : Nat) - b), (l.countP fun r => decide (k ≤ r.tt) && (r.an == false) : Nat)⟩, 0) := by
  have hs := h.crs hn h1 h2 true
  have hf := h.crs hn h1 h2 false
  have hp : 0 < l.countP fun r => decide (k ≤ r.tt) && (r.an == true) := by
    obtain ⟨r, hr, ha, ht⟩ := h.all k h1 h2
    exact List.countP_pos_iff.2 ⟨r, hr, by rw [ha, ht]; simp⟩
  unfold cntF
  rw [if_neg (by omega), if_neg (by rw [h.chk hl]; simp), if_neg (by omega), hs, hf]
def mkX (o k t w : Int) : Rs := ⟨0, 0, k, 10 * k, 9, 17, 0, t, decide (w = 0), false, 10 * k + o, if w = 0 then adN t else 0, if w = 0 then 1 else 0, 0, 0, 0, 0⟩
def xF (o : Int) : Int → List (Int × Int) → List Rs
  | _, [] => []
  | i, p :: d => mkX o i p.1 p.2 :: xF o (i + 1) d
theorem xF_len (o : Int) : ∀ (d : List (Int × Int)) (i : Int), (xF o i d).length = d.length
  | [], _ => rfl
  | _ :: d, i => by show (xF o (i + 1) d).length + 1 = _; rw [xF_len o d]; rfl
theorem xF_snoc (o : Int) (p : Int × Int) : ∀ (d : List (Int × Int)) (i : Int), xF o i (d ++ [p]) = xF o i d ++ [mkX o (i + d.length) p.1 p.2]
  | [], i => by show [mkX o i p.1 p.2] = [mkX o (i + ((0 : Nat) : Int)) p.1 p.2]; rw [Int.natCast_zero, Int.add_zero]
  | q :: d, i => by
    show mkX o i q.1 q.2 :: xF o (i + 1) (d ++ [p]) = mkX o i q.1 q.2 :: xF o (i + 1) d ++ [_]
    rw [xF_snoc o p d, List.length_cons, List.cons_append]
    have : i + 1 + (d.length : Int) = i + ((d.length + 1 : Nat) : Int) := by omega
    rw [this]
theorem xF_mem {o : Int} {r : Rs} : ∀ {d : List (Int × Int)} {i : Int}, r ∈ xF o i d → ∃ k p, p ∈ d ∧ i ≤ k ∧ k < i + d.length ∧ r = mkX o k p.1 p.2
  | [], _, h => by cases h
  | q :: d, i, h => by
    rcases List.mem_cons.1 h with rfl | h
    · exact ⟨i, q, List.mem_cons_self .., by omega, by rw [List.length_cons]; omega, rfl⟩
    · obtain ⟨k, p, h1, h2, h3, h4⟩ := xF_mem h
      exact ⟨k, p, List.mem_cons_of_mem _ h1, by omega, by rw [List.length_cons]; omega, h4⟩
theorem xF_has {o : Int} {p : Int × Int} : ∀ {d : List (Int × Int)} {i : Int}, p ∈ d → ∃ k, mkX o k p.1 p.2 ∈ xF o i d
  | q :: d, i, h => by
    rcases List.mem_cons.1 h with rfl | h
    · exact ⟨i, List.mem_cons_self ..⟩
    · obtain ⟨k, hk⟩ := xF_has (i := i + 1) h
      exact ⟨k, List.mem_cons_of_mem _ hk⟩
theorem cmpL_lt {x y : Int} {xs ys : List Int} (h : x < y) : cmpL (x :: xs) (y :: ys) < 0 := by
  have h1 : cmp3 x y = -1 := by unfold cmp3; rw [if_pos h]
  have h2 : cmpL (x :: xs) (y :: ys) = if cmp3 x y ≠ 0 then cmp3 x y else cmpL xs ys := rfl
  rw [h2, if_pos (by rw [h1]; decide), h1]; decide
theorem xF_up (o : Int) : ∀ (d : List (Int × Int)) (i : Int), Up cmpR (xF o i d)
  | [], _ => List.Pairwise.nil
  | p :: d, i => by
    refine List.pairwise_cons.2 ⟨fun r hr => ?_, xF_up o d (i + 1)⟩
    obtain ⟨k, q, _, h1, _, rfl⟩ := xF_mem hr
    exact cmpL_lt (show 10 * i < 10 * k by omega)
theorem xF_countP {o : Int} {f : Int → Bool → Bool} : ∀ (d : List (Int × Int)) (i : Int), (xF o i d).countP (fun r => f r.tt r.an) = d.countP fun p => f p.1 (decide (p.2 = 0))
  | [], _ => rfl
  | p :: d, i => by
    show (mkX o i p.1 p.2 :: xF o (i + 1) d).countP _ = _
    rw [List.countP_cons, List.countP_cons, xF_countP d]
    rfl
def x0T : Tk := ⟨0, 9, 17⟩
theorem xF_chain {o : Int} {n : Nat} {d : List (Int × Int)} (ho : 0 ≤ o ∧ o ≤ 9) (hn : n ≤ 255) (hd : d.length ≤ 900) (h1 : ∀ p ∈ d, 1 ≤ p.1 ∧ p.1 ≤ n) (h2 : ∀ t : Int, 1 ≤ t → t ≤ n → (t, 0) ∈ d) : Chain n x0T (xF o 0 d) where
  up := xF_up o d 0
  ok r hr := by
    obtain ⟨k, p, hp, hk1, hk2, rfl⟩ := xF_mem hr
    obtain ⟨ht1, ht2⟩ := h1 p hp
    have hv := adN_val (t := p.1) (by omega) (by omega)
    refine ⟨?_, rfl, rfl, rfl, ht1, ht2, fun ha => ?_⟩
    · have hP1 : ¬ P1 (mkX o k p.1 p.2) := by unfold P1 mkX; simp only; omega
      have hP2 : ¬ P2 (mkX o k p.1 p.2) := by unfold P2 mkX; simp only; omega
      by_cases hw : p.2 = 0
      · have hP3 : ¬ P3 (mkX o k p.1 p.2) := by unfold P3 mkX; simp [hw]
        have hP4 : ¬ P4 (mkX o k p.1 p.2) := by unfold P4 mkX; simp only [hw, if_true]; omega
        have hck : ckE (mkX o k p.1 p.2) = 0 := by unfold ckE; rw [if_neg hP1, if_neg hP2, if_neg hP3, if_neg hP4]
        have hf : (mkX o k p.1 p.2).fr.val ≠ 0 := by
          show (if p.2 = 0 then adN p.1 else 0).val ≠ 0
          rw [if_pos hw]; omega
        unfold okR
        rw [hck, decide_eq_true hf]
        simp [mkX]
      · have e1 : (mkX o k p.1 p.2).an = false := decide_eq_false hw
        have hP3 : ¬ P3 (mkX o k p.1 p.2) := by unfold P3 mkX anI; simp [hw]
        have hP4 : ¬ P4 (mkX o k p.1 p.2) := by unfold P4; rw [e1]; simp
        have hck : ckE (mkX o k p.1 p.2) = 0 := by unfold ckE; rw [if_neg hP1, if_neg hP2, if_neg hP3, if_neg hP4]
        unfold okR
        rw [hck, e1]
        simp [mkX]
    · have hw : p.2 = 0 := of_decide_eq_true ha
      refine ⟨?_, ?_⟩ <;> show (if p.2 = 0 then _ else _) = _ <;> rw [if_pos hw]
      rfl
  all t ht1 ht2 := by
    obtain ⟨k, hk⟩ := xF_has (o := o) (i := 0) (h2 t ht1 ht2)
    exact ⟨_, hk, rfl, rfl⟩
theorem xF_cnt {o : Int} {n : Nat} {d : List (Int × Int)} (ho : 0 ≤ o ∧ o ≤ 9) (hn : n ≤ 3) (hd : d.length ≤ 500) (h1 : ∀ p ∈ d, 1 ≤ p.1 ∧ p.1 ≤ n) (h2 : ∀ t : Int, 1 ≤ t → t ≤ n → (t, 0) ∈ d) {k b : Int} (hk1 : 1 ≤ k) (hk2 : k ≤ n) (hb : 0 ≤ b) (hb2 : b ≤ 1048576) :
    cntF (xF o 0 d) (wk k) b = (⟨wk k, ((d.countP fun p => decide (k ≤ p.1) && (decide (p.2 = 0) == true) : Nat) : Int) + (d.countP fun p => decide (k ≤ p.1) && (decide (p.2 = 0) == false) : Nat), max 0 ((d.countP fun p => decide (k ≤ p.1) && (decide (p.2 = 0) == false) : Nat) - b), (d.countP fun p => decide (k ≤ p.1) && (decide (p.2 = 0) == false) : Nat)⟩, 0) := by
  rw [(xF_chain ho (by omega) (by omega) h1 h2).cnt hn (by rw [xF_len]; omega) hk1 hk2 hb hb2]
  rw [xF_countP (f := fun t a => decide (k ≤ t) && (a == true)), xF_countP (f := fun t a => decide (k ≤ t) && (a == false))]
end Go.Proofs.YtlkdkbdgnjcopaaGreat
namespace Go.Proofs.YtlkdkbdgnjcopaaGreat
open Go.Own Go.Limbs
theorem clash_none : ∀ (l : List Rs) (m : SeenM), clashG m l = l.length → (∀ r ∈ l, plB r = true → ∀ a, look1 m (plS r) = some a → a = r.fr) ∧ l.Pairwise (fun a b => conB a b = false)
  | [], _, _ => ⟨fun r h => absurd h (by simp), List.Pairwise.nil⟩
  | x :: l, m, h => by
    simp only [clashG, List.length_cons] at h
    by_cases h1 : plB x = false
    · rw [if_pos h1] at h
      obtain ⟨i1, i2⟩ := clash_none l m (by omega)
      refine ⟨fun r hr hb a ha => ?_, List.pairwise_cons.2 ⟨fun b _ => by unfold conB; rw [h1]; rfl, i2⟩⟩
      rcases List.mem_cons.1 hr with hr | hr
      · subst hr; rw [h1] at hb; cases hb
      · exact i1 r hr hb a ha
    · rw [if_neg h1] at h
      have h1 : plB x = true := by simpa using h1
      by_cases h2 : (look1 m (plS x)).isSome = true ∧ (look1 m (plS x)).getD 0 ≠ x.fr
      · rw [if_pos h2] at h; omega
      · rw [if_neg h2] at h
        obtain ⟨i1, i2⟩ := clash_none l _ (show clashG (ins m (plS x) x.fr) l = l.length by omega)
        have hx : ∀ a, look1 m (plS x) = some a → a = x.fr := fun a ha => Decidable.byContradiction fun hn => h2 ⟨by rw [ha]; rfl, by rw [ha]; exact hn⟩
        refine ⟨fun r hr hb a ha => ?_, List.pairwise_cons.2 ⟨fun b hb => ?_, i2⟩⟩
        · rcases List.mem_cons.1 hr with hr | hr
          · subst hr; exact hx a ha
          · by_cases e : plS r = plS x
            · have := i1 r hr hb x.fr (by rw [Xr, if_pos e])
              rw [e] at ha
              rw [hx a ha]; exact this
            · exact i1 r hr hb a (by rw [Xr, if_neg e]; exact ha)
        · unfold conB
          by_cases hb2 : plB b = true
          · by_cases e : plS x = plS b
            · have := i1 b hb hb2 x.fr (by rw [Xr, if_pos e.symm])
              rw [decide_eq_false (show ¬ (x.fr ≠ b.fr) from fun h => h this)]; simp
            · rw [decide_eq_false e]; simp
          · rw [show plB b = false by simpa using hb2]; simp
theorem clash_ok : ∀ (l : List Rs) (m : SeenM), (∀ r ∈ l, plB r = true → ∀ a, look1 m (plS r) = some a → a = r.fr) → l.Pairwise (fun a b => conB a b = false) → clashG m l = l.length
  | [], _, _, _ => rfl
  | x :: l, m, h1, h2 => by
    obtain ⟨p1, p2⟩ := List.pairwise_cons.1 h2
    simp only [clashG, List.length_cons]
    by_cases hb : plB x = false
    · rw [if_pos hb, clash_ok l m (fun r hr => h1 r (List.mem_cons_of_mem _ hr)) p2]
    · rw [if_neg hb]
      have hb : plB x = true := by simpa using hb
      rw [if_neg (fun h => ?_), clash_ok l _ (fun r hr hbr a ha => ?_) p2]
      · rw [Xr] at ha
        split at ha
        · rename_i e
          injection ha with ha
          have hc := p1 r hr
          unfold conB at hc
          rw [hb, hbr, decide_eq_true e.symm] at hc
          rw [← ha]
          exact Decidable.byContradiction fun hn => by rw [decide_eq_true hn] at hc; cases hc
        · exact h1 r (List.mem_cons_of_mem _ hr) hbr a ha
      · obtain ⟨q1, q2⟩ := h
        cases e : look1 m (plS x) with
        | none => rw [e] at q1; cases q1
        | some a => rw [e] at q2; exact q2 (h1 x (List.mem_cons_self ..) hb a e)
theorem clash_take : ∀ (l : List Rs) (m : SeenM) (j : Nat), clashG m (l.take j) = min (clashG m l) j
  | [], m, j => by simp [clashG]
  | x :: l, m, 0 => by simp [clashG]
  | x :: l, m, j + 1 => by
    rw [List.take_succ_cons]
    simp only [clashG]
    split
    · rw [clash_take l m j]; omega
    · split
      · omega
      · rw [clash_take l _ j]; omega
theorem consB_iff (l : List Rs) : consB l = true ↔ (sd cmpR (l.filter okR)).Pairwise (fun a b => conB a b = false) := by
  unfold consB
  generalize sd cmpR (l.filter okR) = o
  constructor
  · intro h
    by_cases hk : clashG [] o < o.length
    · exfalso
      have hk2 : clashG [] (o.take (clashG [] o)) = (o.take (clashG [] o)).length := by rw [clash_take, List.length_take]; omega
      have hf : (o.take (clashG [] o)).findIdx? (fun a => conB a (o.getD (clashG [] o) rs0)) = none := by
        have : witG o = (o.take (clashG [] o)).findIdx? (fun a => conB a (o.getD (clashG [] o) rs0)) := if_pos hk
        rw [this] at h
        cases e : (o.take (clashG [] o)).findIdx? (fun a => conB a (o.getD (clashG [] o) rs0)) with
        | none => rfl
        | some v => rw [e] at h; cases h
      generalize hkk : clashG [] o = k at hk hk2 hf
      have hp : (o.take (k + 1)).Pairwise (fun a b => conB a b = false) := by
        rw [List.take_add_one, List.getElem?_eq_getElem hk]
        refine List.pairwise_append.2 ⟨(clash_none _ _ hk2).2, List.pairwise_singleton _ _, fun a ha b hb => ?_⟩
        have hb : b = o[k] := by simpa using hb
        rw [List.findIdx?_eq_none_iff] at hf
        have := hf a ha
        rw [List.getD_eq_getElem?_getD, List.getElem?_eq_getElem hk] at this
        rw [hb]; exact this
      have h5 := clash_ok (o.take (k + 1)) [] (fun r _ _ a ha => by cases ha) hp
      rw [clash_take, hkk, List.length_take] at h5
      omega
    · exact (clash_none o [] (by have := clashG_le o []; omega)).2
  · intro h
    have h5 := clash_ok o [] (fun r _ _ a ha => by cases ha) h
    have : witG o = none := if_neg (by omega)
    rw [this]; rfl
theorem sd_same {l : List Rs} (h : Up cmpR l) (h2 : ∀ r ∈ l, okR r = true) : sd cmpR (l.filter okR) = l := by
  rw [List.filter_eq_self.2 h2]
  exact Up.ext ordR (Yw ordR l).1 h (Yw ordR l).2
attribute [local irreducible] Go.Own.Fin Ok OkB OkF OkL OkM OkN OkT Ops St
theorem gorTraceOf : InGo Tryz.prog 80 := InGo.of Tryz.func80 rfl (by decide)
theorem rTraceOf_ok (r : Rs) : Ok Tryz.prog 80 [rsC r] (tkC (trOf r)) := by
  refine Ok.enter Tryz.func80 rfl _ Tryz.ntmps80 rfl ?_
  intro S w
  (refine Qw (Qx fun K hK => ?_); refine Xk 0 rfl rfl rfl rfl rfl rfl rfl ?_)
  refine Qh 1 rfl rfl (by with_reducible exact zvTrace) rfl rfl rfl ?_
  (refine Qj (hK _ _ (Qz (Qw ?_))); clear hK K; refine Qx (fun K hK => ?_); refine QV rfl rfl rfl (by with_reducible first | exact fS0 | exact fS1 | exact fS2 | exact fS3 | exact fS4 | exact fS5 | exact fS6 | exact fS7 | exact fS8 | exact fS9 | exact fS10 | exact fS11 | exact fN0 | exact fN1 | exact fN2 | exact fN3 | exact fN4 | exact fN5) rfl ?_; refine QJ rfl rfl rfl rfl rfl (by with_reducible first | exact lInt | exact Q9 | exact Q6 | exact lRess) rfl ?_; refine QV rfl rfl rfl (by with_reducible first | exact fS0 | exact fS1 | exact fS2 | exact fS3 | exact fS4 | exact fS5 | exact fS6 | exact fS7 | exact fS8 | exact fS9 | exact fS10 | exact fS11 | exact fN0 | exact fN1 | exact fN2 | exact fN3 | exact fN4 | exact fN5) rfl ?_; refine QJ rfl rfl rfl rfl rfl (by with_reducible first | exact lInt | exact Q9 | exact Q6 | exact lRess) rfl ?_; refine QV rfl rfl rfl (by with_reducible first | exact fS0 | exact fS1 | exact fS2 | exact fS3 | exact fS4 | exact fS5 | exact fS6 | exact fS7 | exact fS8 | exact fS9 | exact fS10 | exact fS11 | exact fN0 | exact fN1 | exact fN2 | exact fN3 | exact fN4 | exact fN5) rfl ?_; refine QJ rfl rfl rfl rfl rfl (by with_reducible first | exact lInt | exact Q9 | exact Q6 | exact lRess) rfl ?_)
  refine Xq rfl (by with_reducible exact bTrace) rfl (.one rfl rfl rfl rfl (.one rfl rfl rfl rfl (.one rfl rfl rfl rfl .nil))) rfl ?_
  refine Qe 3 rfl rfl rfl rfl rfl (by with_reducible exact szTrace) rfl rfl ?_
  (refine Qj (hK _ _ (Qz (Q0 ?_))); clear hK K)
  refine Fin.end [_] rfl (Qi (n := 3) rfl rfl (by with_reducible exact Z4) rfl QX) rfl rfl
theorem goContradictR : InGo Tryz.prog 82 := InGo.of Tryz.func82 rfl (by decide)
set_option maxHeartbeats 8000000 in
theorem rContradict_ok (a b : Rs) : Ok Tryz.prog 82 [rsC a, rsC b] (boolC (conB a b)) := by
  have hA := rUsable_ok a
  have hB := rUsable_ok b
  have hTa := rTraceOf_ok a
  have hTb := rTraceOf_ok b
  have e : conB a b = ((a.an && usR a && (b.an && usR b)) && (decide ((trOf a, a.fl, a.tt) = (trOf b, b.fl, b.tt)) && decide (a.fr ≠ b.fr))) := rfl
  generalize usR a = ua at hA e
  generalize usR b = ub at hB e
  generalize trOf a = ta at hTa e
  generalize trOf b = tb at hTb e
  have no : (ua = false ∨ ub = false ∨ a.an = false ∨ b.an = false ∨ ¬ ta = tb ∨ ¬ a.fl = b.fl ∨ ¬ a.tt = b.tt ∨ a.fr = b.fr) → conB a b = false := fun h => by
    rw [e]
    rcases h with h | h | h | h | h | h | h | h <;> simp [h]
  have yes : ua = true → ub = true → a.an = true → b.an = true → ta = tb → a.fl = b.fl → a.tt = b.tt → ¬ a.fr = b.fr → conB a b = true := fun h1 h2 h3 h4 h5 h6 h7 h8 => by
    rw [e]; simp [h1, h2, h3, h4, h5, h6, h7, h8]
  generalize conB a b = c at no yes ⊢
  clear e
  refine Ok.enter Tryz.func82 rfl _ Tryz.ntmps82 rfl ?_
  intro S w
  (refine Qw (Qx fun K hK => ?_); refine Xk 0 rfl rfl rfl rfl rfl rfl rfl ?_; refine Xk 1 rfl rfl rfl rfl rfl rfl rfl ?_; refine Qv rfl rfl rfl ?_; refine Qj (hK _ _ (Qz (Qw ?_))); clear hK K)
  refine Xu (by with_reducible exact mixed) 45 (.f 0 (.m 1 (.p 2 (.f 3 (.m 4 (.p 5 (.p 6 (.p 7 (.f 8 (.p 9 (.p 10 (.p 11 (.f 12 (.p 13 (.p 14 (.f 15 (.f 17 (.m 16 (.m 18 (.p 19 (.p 20 (.p 21 (.p 22 (.p 24 (.f 23 (.f 25 (.p 26 (.p 27 (.p 28 (.p 29 (.p 31 (.f 30 (.f 32 (.p 33 (.p 34 (.p 35 (.p 36 (.p 37 (.p 39 (.p 40 (.f 38 (.f 41 (.p 42 (.p 43 (.p 44 .done))))))))))))))))))))))))))))))))))))))))))))) (by kernel_rfl) (fun K hK => ?_)
  (refine Qa (n := 17) rfl rfl rfl rfl rfl (by with_reducible exact lRes) rfl ?_)
  refine QW gorUsable hA rfl rfl rfl rfl ?_
  (refine Qq rfl rfl rfl ?_)
  refine X3 7 (b := ua) rfl (fun h1 => ?_) (fun h1 => ?_)
  rotate_left
  · (refine Qy rfl rfl rfl ?_; refine Qy rfl rfl rfl ?_; refine QK rfl rfl rfl rfl ?_; refine Qq rfl rfl rfl ?_; refine Qy rfl rfl rfl ?_; refine Qy rfl rfl rfl ?_; refine QK rfl rfl rfl rfl ?_; refine Qq rfl rfl rfl ?_; refine Qy rfl rfl rfl ?_; refine Qy rfl rfl rfl ?_; refine QK rfl rfl rfl rfl ?_; refine Qq rfl rfl rfl ?_; refine Qy rfl rfl rfl ?_; refine Qy rfl rfl rfl ?_; refine Qy rfl rfl rfl ?_; refine Qy rfl rfl rfl ?_; refine Qy rfl rfl rfl ?_; refine QK rfl rfl rfl rfl ?_; refine Qq rfl rfl rfl ?_; refine Qy rfl rfl rfl ?_; refine Qy rfl rfl rfl ?_; refine Qy rfl rfl rfl ?_; refine Qy rfl rfl rfl ?_; refine Qy rfl rfl rfl ?_; refine QK rfl rfl rfl rfl ?_; refine Qq rfl rfl rfl ?_; refine Qy rfl rfl rfl ?_; refine Qy rfl rfl rfl ?_; refine Qy rfl rfl rfl ?_; refine Qy rfl rfl rfl ?_; refine Qy rfl rfl rfl ?_; refine QK rfl rfl rfl rfl ?_; refine Qq rfl rfl rfl ?_; refine Qy rfl rfl rfl ?_; refine Qy rfl rfl rfl ?_; refine Qy rfl rfl rfl ?_; refine Qy rfl rfl rfl ?_; refine Qy rfl rfl rfl ?_; refine Qy rfl rfl rfl ?_; refine Qy rfl rfl rfl ?_; refine QK rfl rfl rfl rfl ?_; refine Qv rfl rfl rfl ?_; refine Qj (hK _ _ (Qz (Q0 ?_))); clear hK K)
    refine QU [_] rfl (QQ rfl QX) (by rw [no (.inl h1)]; rfl) rfl
  (refine Qa (n := 17) rfl rfl rfl rfl rfl (by with_reducible exact lRes) rfl ?_)
  refine QW gorUsable hB rfl rfl rfl rfl ?_
  (refine QZ rfl rfl rfl rfl ?_; refine Qq rfl rfl rfl ?_)
  refine X3 11 (b := ub) rfl (fun h2 => ?_) (fun h2 => ?_)
  rotate_left
  · (refine Qy rfl rfl rfl ?_; refine Qy rfl rfl rfl ?_; refine QK rfl rfl rfl rfl ?_; refine Qq rfl rfl rfl ?_; refine Qy rfl rfl rfl ?_; refine Qy rfl rfl rfl ?_; refine QK rfl rfl rfl rfl ?_; refine Qq rfl rfl rfl ?_; refine Qy rfl rfl rfl ?_; refine Qy rfl rfl rfl ?_; refine Qy rfl rfl rfl ?_; refine Qy rfl rfl rfl ?_; refine Qy rfl rfl rfl ?_; refine QK rfl rfl rfl rfl ?_; refine Qq rfl rfl rfl ?_; refine Qy rfl rfl rfl ?_; refine Qy rfl rfl rfl ?_; refine Qy rfl rfl rfl ?_; refine Qy rfl rfl rfl ?_; refine Qy rfl rfl rfl ?_; refine QK rfl rfl rfl rfl ?_; refine Qq rfl rfl rfl ?_; refine Qy rfl rfl rfl ?_; refine Qy rfl rfl rfl ?_; refine Qy rfl rfl rfl ?_; refine Qy rfl rfl rfl ?_; refine Qy rfl rfl rfl ?_; refine QK rfl rfl rfl rfl ?_; refine Qq rfl rfl rfl ?_; refine Qy rfl rfl rfl ?_; refine Qy rfl rfl rfl ?_; refine Qy rfl rfl rfl ?_; refine Qy rfl rfl rfl ?_; refine Qy rfl rfl rfl ?_; refine Qy rfl rfl rfl ?_; refine Qy rfl rfl rfl ?_; refine QK rfl rfl rfl rfl ?_; refine Qv rfl rfl rfl ?_; refine Qj (hK _ _ (Qz (Q0 ?_))); clear hK K)
    refine QU [_] rfl (QQ rfl QX) (by rw [no (.inr (.inl h2))]; rfl) rfl
  (refine QV rfl rfl rfl (by with_reducible first | exact fS0 | exact fS1 | exact fS2 | exact fS3 | exact fS4 | exact fS5 | exact fS6 | exact fS7 | exact fS8 | exact fS9 | exact fS10 | exact fS11 | exact fN0 | exact fN1 | exact fN2 | exact fN3 | exact fN4 | exact fN5) rfl ?_; refine QJ rfl rfl rfl rfl rfl (by with_reducible first | exact lInt | exact Q9 | exact Q6 | exact lRess) rfl ?_; refine QZ rfl rfl rfl rfl ?_; refine Qq rfl rfl rfl ?_)
  refine X3 15 (b := a.an) rfl (fun h3 => ?_) (fun h3 => ?_)
  rotate_left
  · (refine Qy rfl rfl rfl ?_; refine Qy rfl rfl rfl ?_; refine QK rfl rfl rfl rfl ?_; refine Qq rfl rfl rfl ?_; refine Qy rfl rfl rfl ?_; refine Qy rfl rfl rfl ?_; refine Qy rfl rfl rfl ?_; refine Qy rfl rfl rfl ?_; refine Qy rfl rfl rfl ?_; refine QK rfl rfl rfl rfl ?_; refine Qq rfl rfl rfl ?_; refine Qy rfl rfl rfl ?_; refine Qy rfl rfl rfl ?_; refine Qy rfl rfl rfl ?_; refine Qy rfl rfl rfl ?_; refine Qy rfl rfl rfl ?_; refine QK rfl rfl rfl rfl ?_; refine Qq rfl rfl rfl ?_; refine Qy rfl rfl rfl ?_; refine Qy rfl rfl rfl ?_; refine Qy rfl rfl rfl ?_; refine Qy rfl rfl rfl ?_; refine Qy rfl rfl rfl ?_; refine QK rfl rfl rfl rfl ?_; refine Qq rfl rfl rfl ?_; refine Qy rfl rfl rfl ?_; refine Qy rfl rfl rfl ?_; refine Qy rfl rfl rfl ?_; refine Qy rfl rfl rfl ?_; refine Qy rfl rfl rfl ?_; refine Qy rfl rfl rfl ?_; refine Qy rfl rfl rfl ?_; refine QK rfl rfl rfl rfl ?_; refine Qv rfl rfl rfl ?_; refine Qj (hK _ _ (Qz (Q0 ?_))); clear hK K)
    refine QU [_] rfl (QQ rfl QX) (by rw [no (.inr (.inr (.inl h3)))]; rfl) rfl
  (refine QV rfl rfl rfl (by with_reducible first | exact fS0 | exact fS1 | exact fS2 | exact fS3 | exact fS4 | exact fS5 | exact fS6 | exact fS7 | exact fS8 | exact fS9 | exact fS10 | exact fS11 | exact fN0 | exact fN1 | exact fN2 | exact fN3 | exact fN4 | exact fN5) rfl ?_; refine QJ rfl rfl rfl rfl rfl (by with_reducible first | exact lInt | exact Q9 | exact Q6 | exact lRess) rfl ?_; refine QZ rfl rfl rfl rfl ?_; refine Qq rfl rfl rfl ?_)
  refine X3 19 (b := b.an) rfl (fun h4 => ?_) (fun h4 => ?_)
  rotate_left
  · (refine Qy rfl rfl rfl ?_; refine Qy rfl rfl rfl ?_; refine Qy rfl rfl rfl ?_; refine Qy rfl rfl rfl ?_; refine Qy rfl rfl rfl ?_; refine QK rfl rfl rfl rfl ?_; refine Qq rfl rfl rfl ?_; refine Qy rfl rfl rfl ?_; refine Qy rfl rfl rfl ?_; refine Qy rfl rfl rfl ?_; refine Qy rfl rfl rfl ?_; refine Qy rfl rfl rfl ?_; refine QK rfl rfl rfl rfl ?_; refine Qq rfl rfl rfl ?_; refine Qy rfl rfl rfl ?_; refine Qy rfl rfl rfl ?_; refine Qy rfl rfl rfl ?_; refine Qy rfl rfl rfl ?_; refine Qy rfl rfl rfl ?_; refine QK rfl rfl rfl rfl ?_; refine Qq rfl rfl rfl ?_; refine Qy rfl rfl rfl ?_; refine Qy rfl rfl rfl ?_; refine Qy rfl rfl rfl ?_; refine Qy rfl rfl rfl ?_; refine Qy rfl rfl rfl ?_; refine Qy rfl rfl rfl ?_; refine Qy rfl rfl rfl ?_; refine QK rfl rfl rfl rfl ?_; refine Qv rfl rfl rfl ?_; refine Qj (hK _ _ (Qz (Q0 ?_))); clear hK K)
    refine QU [_] rfl (QQ rfl QX) (by rw [no (.inr (.inr (.inr (.inl h4))))]; rfl) rfl
  (refine Qa (n := 17) rfl rfl rfl rfl rfl (by with_reducible exact lRes) rfl ?_; refine Qa (n := 17) rfl rfl rfl rfl rfl (by with_reducible exact lRes) rfl ?_)
  refine QW gorTraceOf hTa rfl rfl rfl rfl ?_
  skip
  refine QW gorTraceOf hTb rfl rfl rfl rfl ?_
  refine eqTk ta tb rfl rfl rfl rfl rfl ?_
  (refine QZ rfl rfl rfl rfl ?_; refine Qq rfl rfl rfl ?_)
  refine Q5 26 rfl (fun h5 => ?_) (fun h5 => ?_)
  rotate_left
  · (refine Qy rfl rfl rfl ?_; refine Qy rfl rfl rfl ?_; refine Qy rfl rfl rfl ?_; refine Qy rfl rfl rfl ?_; refine Qy rfl rfl rfl ?_; refine QK rfl rfl rfl rfl ?_; refine Qq rfl rfl rfl ?_; refine Qy rfl rfl rfl ?_; refine Qy rfl rfl rfl ?_; refine Qy rfl rfl rfl ?_; refine Qy rfl rfl rfl ?_; refine Qy rfl rfl rfl ?_; refine QK rfl rfl rfl rfl ?_; refine Qq rfl rfl rfl ?_; refine Qy rfl rfl rfl ?_; refine Qy rfl rfl rfl ?_; refine Qy rfl rfl rfl ?_; refine Qy rfl rfl rfl ?_; refine Qy rfl rfl rfl ?_; refine Qy rfl rfl rfl ?_; refine Qy rfl rfl rfl ?_; refine QK rfl rfl rfl rfl ?_; refine Qv rfl rfl rfl ?_; refine Qj (hK _ _ (Qz (Q0 ?_))); clear hK K)
    refine QU [_] rfl (QQ rfl QX) (by rw [no (.inr (.inr (.inr (.inr (.inl h5)))))]; rfl) rfl
  (refine QV rfl rfl rfl (by with_reducible first | exact fS0 | exact fS1 | exact fS2 | exact fS3 | exact fS4 | exact fS5 | exact fS6 | exact fS7 | exact fS8 | exact fS9 | exact fS10 | exact fS11 | exact fN0 | exact fN1 | exact fN2 | exact fN3 | exact fN4 | exact fN5) rfl ?_; refine QV rfl rfl rfl (by with_reducible first | exact fS0 | exact fS1 | exact fS2 | exact fS3 | exact fS4 | exact fS5 | exact fS6 | exact fS7 | exact fS8 | exact fS9 | exact fS10 | exact fS11 | exact fN0 | exact fN1 | exact fN2 | exact fN3 | exact fN4 | exact fN5) rfl ?_; refine QJ rfl rfl rfl rfl rfl (by with_reducible first | exact lInt | exact Q9 | exact Q6 | exact lRess) rfl ?_; refine QJ rfl rfl rfl rfl rfl (by with_reducible first | exact lInt | exact Q9 | exact Q6 | exact lRess) rfl ?_; refine Qk ieql rfl rfl rfl rfl ?_; refine QZ rfl rfl rfl rfl ?_; refine Qq rfl rfl rfl ?_)
  refine Q5 33 rfl (fun h6 => ?_) (fun h6 => ?_)
  rotate_left
  · (refine Qy rfl rfl rfl ?_; refine Qy rfl rfl rfl ?_; refine Qy rfl rfl rfl ?_; refine Qy rfl rfl rfl ?_; refine Qy rfl rfl rfl ?_; refine QK rfl rfl rfl rfl ?_; refine Qq rfl rfl rfl ?_; refine Qy rfl rfl rfl ?_; refine Qy rfl rfl rfl ?_; refine Qy rfl rfl rfl ?_; refine Qy rfl rfl rfl ?_; refine Qy rfl rfl rfl ?_; refine Qy rfl rfl rfl ?_; refine Qy rfl rfl rfl ?_; refine QK rfl rfl rfl rfl ?_; refine Qv rfl rfl rfl ?_; refine Qj (hK _ _ (Qz (Q0 ?_))); clear hK K)
    refine QU [_] rfl (QQ rfl QX) (by rw [no (.inr (.inr (.inr (.inr (.inr (.inl h6))))))]; rfl) rfl
  (refine QV rfl rfl rfl (by with_reducible first | exact fS0 | exact fS1 | exact fS2 | exact fS3 | exact fS4 | exact fS5 | exact fS6 | exact fS7 | exact fS8 | exact fS9 | exact fS10 | exact fS11 | exact fN0 | exact fN1 | exact fN2 | exact fN3 | exact fN4 | exact fN5) rfl ?_; refine QV rfl rfl rfl (by with_reducible first | exact fS0 | exact fS1 | exact fS2 | exact fS3 | exact fS4 | exact fS5 | exact fS6 | exact fS7 | exact fS8 | exact fS9 | exact fS10 | exact fS11 | exact fN0 | exact fN1 | exact fN2 | exact fN3 | exact fN4 | exact fN5) rfl ?_; refine QJ rfl rfl rfl rfl rfl (by with_reducible first | exact lInt | exact Q9 | exact Q6 | exact lRess) rfl ?_; refine QJ rfl rfl rfl rfl rfl (by with_reducible first | exact lInt | exact Q9 | exact Q6 | exact lRess) rfl ?_; refine Qk ieql rfl rfl rfl rfl ?_; refine QZ rfl rfl rfl rfl ?_; refine Qq rfl rfl rfl ?_)
  refine Q5 40 rfl (fun h7 => ?_) (fun h7 => ?_)
  rotate_left
  · (refine Qy rfl rfl rfl ?_; refine Qy rfl rfl rfl ?_; refine Qy rfl rfl rfl ?_; refine Qy rfl rfl rfl ?_; refine Qy rfl rfl rfl ?_; refine Qy rfl rfl rfl ?_; refine Qy rfl rfl rfl ?_; refine QK rfl rfl rfl rfl ?_; refine Qv rfl rfl rfl ?_; refine Qj (hK _ _ (Qz (Q0 ?_))); clear hK K)
    refine QU [_] rfl (QQ rfl QX) (by rw [no (.inr (.inr (.inr (.inr (.inr (.inr (.inl h7)))))))]; rfl) rfl
  (refine QV rfl rfl rfl (by with_reducible first | exact fS0 | exact fS1 | exact fS2 | exact fS3 | exact fS4 | exact fS5 | exact fS6 | exact fS7 | exact fS8 | exact fS9 | exact fS10 | exact fS11 | exact fN0 | exact fN1 | exact fN2 | exact fN3 | exact fN4 | exact fN5) rfl ?_; refine X2 rfl rfl (by with_reducible first | exact fN0 | exact fN1 | exact fN2 | exact fN3 | exact fN4 | exact fN5) rfl ?_; refine QV rfl rfl rfl (by with_reducible first | exact fS0 | exact fS1 | exact fS2 | exact fS3 | exact fS4 | exact fS5 | exact fS6 | exact fS7 | exact fS8 | exact fS9 | exact fS10 | exact fS11 | exact fN0 | exact fN1 | exact fN2 | exact fN3 | exact fN4 | exact fN5) rfl ?_; refine X2 rfl rfl (by with_reducible first | exact fN0 | exact fN1 | exact fN2 | exact fN3 | exact fN4 | exact fN5) rfl ?_; refine QJ rfl rfl rfl rfl rfl (by with_reducible first | exact lInt | exact Q9 | exact Q6 | exact lRess) rfl ?_; refine QJ rfl rfl rfl rfl rfl (by with_reducible first | exact lInt | exact Q9 | exact Q6 | exact lRess) rfl ?_; refine Qk ineq rfl rfl rfl rfl ?_; refine QZ rfl rfl rfl rfl ?_; refine Qv rfl rfl rfl ?_; refine Qj (hK _ _ (Qz (Q0 ?_))); clear hK K)
  by_cases h8 : a.fr = b.fr
  · refine QU [_] rfl (QQ rfl QX) (by rw [no (.inr (.inr (.inr (.inr (.inr (.inr (.inr (h8)))))))), h8]; simp; rfl) rfl
  · refine QU [_] rfl (QQ rfl QX) (by rw [yes h1 h2 h3 h4 h5 h6 h7 h8, decide_eq_true (show ((a.fr.val : Int) ≠ (b.fr.val : Int)) from fun h => h8 (_root_.Fin.ext (by omega)))]; rfl) rfl
def pwB (l : List Rs) : Bool := decide (∀ k, k < l.length → ∀ j, j < k → conB (l.getD j rs0) (l.getD k rs0) = false)
theorem conB_symm (a b : Rs) : conB a b = conB b a := by
  unfold conB
  rw [Bool.and_comm (plB a), decide_eq_decide.2 (show plS a = plS b ↔ plS b = plS a from eq_comm), decide_eq_decide.2 (show a.fr ≠ b.fr ↔ b.fr ≠ a.fr from ne_comm)]
theorem conB_self (a : Rs) : conB a a = false := by
  unfold conB; rw [decide_eq_false (show ¬ (a.fr ≠ a.fr) from fun h => h rfl)]; simp
theorem pw_all {l : List Rs} (h : pwB l = true) : ∀ a ∈ l, ∀ b ∈ l, conB a b = false := by
  have h := of_decide_eq_true h
  intro a ha b hb
  obtain ⟨j, hj, rfl⟩ := List.getElem_of_mem ha
  obtain ⟨k, hk, rfl⟩ := List.getElem_of_mem hb
  have ej : l.getD j rs0 = l[j] := by simp [List.getD_eq_getElem?_getD, List.getElem?_eq_getElem hj]
  have ek : l.getD k rs0 = l[k] := by simp [List.getD_eq_getElem?_getD, List.getElem?_eq_getElem hk]
  rw [← ej, ← ek]
  rcases Nat.lt_trichotomy j k with q | q | q
  · exact h k hk j q
  · rw [q]; exact conB_self _
  · rw [conB_symm]; exact h j hj k q
theorem cons_all {l : List Rs} (h : ∀ a ∈ l, ∀ b ∈ l, conB a b = false) : consB l = true := by
  rw [consB_iff]
  refine List.Pairwise.imp_of_mem (R := fun _ _ => True) (fun {a b} ha hb _ => h a ?_ b ?_) (List.pairwise_of_forall (fun _ _ => trivial))
  · exact (List.mem_filter.1 (((Yw ordR (l.filter okR)).2 a).1 ha)).1
  · exact (List.mem_filter.1 (((Yw ordR (l.filter okR)).2 b).1 hb)).1
theorem goConsistentR : InGo Tryz.prog 41 := InGo.of Tryz.func41 rfl (by decide)
set_option maxHeartbeats 8000000 in
theorem rConsistent_ok (l : List Rs) (hl : l.length ≤ 100000) : Ok Tryz.prog 41 [rssC l] (boolC (pwB l)) := by
  have yes : (∀ k, k < l.length → ∀ j, j < k → conB (l.getD j rs0) (l.getD k rs0) = false) → pwB l = true := fun h => decide_eq_true h
  have no : ∀ k j, k < l.length → j < k → conB (l.getD j rs0) (l.getD k rs0) = true → pwB l = false := fun k j h1 h2 h3 => decide_eq_false fun h => by rw [h k h1 j h2] at h3; cases h3
  generalize pwB l = c at yes no ⊢
  refine Ok.enter Tryz.func41 rfl _ Tryz.ntmps41 rfl ?_
  intro S w
  (refine Qw (Qx fun K hK => ?_); refine Qv rfl rfl rfl ?_; refine Qj (hK _ _ (Qz (Qw (Qw ?_)))); clear hK K; refine Qx (fun K hK => ?_); refine Qv rfl rfl rfl ?_; refine Qj (hK _ _ (Qz (Q4 ?_))); clear hK K)
  refine Xz (α := Nat) (fun i => i ≤ l.length ∧ ∀ k, k < i → ∀ j, j < k → conB (l.getD j rs0) (l.getD k rs0) = false)
    (fun i => [(0, .ct (rssC l)), (3, .ct (intC i))]) (fun _ => []) (fun i => l.length - i) 0 ⟨Nat.zero_le _, fun k h => absurd h (Nat.not_lt_zero _)⟩ (by exact Qu rfl ⟨rfl, rfl, trivial⟩) ?_
  intro i ⟨hi, hp⟩
  try dsimp only at hi hp ⊢
  (refine Qw (Qw (Qx fun K hK => ?_)); refine Qq rfl rfl rfl ?_; refine Qq rfl rfl rfl ?_; refine Qd rfl rfl (by with_reducible exact sRes.und) (List.length_map ..) rfl ?_; refine Qk ilss rfl rfl rfl rfl ?_; refine Qj (hK _ _ (Qz ?_)); clear hK K)
  refine Q2 rfl (fun h => ?_) (fun h => ?_)
  · (refine Q1 (Qz (Qw (Q4 (Qw (Qx fun K hK => ?_))))); refine Qv rfl rfl rfl ?_; refine Qj (hK _ _ (Qz (Q4 ?_))); clear hK K)
    refine Xz (α := Nat) (fun k => k ≤ i ∧ ∀ j, j < k → conB (l.getD j rs0) (l.getD i rs0) = false)
      (fun k => [(0, .ct (rssC l)), (3, .ct (intC i)), (4, .ct (intC k))]) (fun _ => []) (fun k => i - k) 0 ⟨Nat.zero_le _, fun k h => absurd h (Nat.not_lt_zero _)⟩ (by exact Qu rfl ⟨rfl, rfl, rfl, trivial⟩) ?_
    intro k ⟨hk, hp2⟩
    try dsimp only at hk hp2 ⊢
    (refine Qw (Qw (Qx fun K hK => ?_)); refine Qq rfl rfl rfl ?_; refine Qq rfl rfl rfl ?_; refine Qk ilss rfl rfl rfl rfl ?_; refine Qj (hK _ _ (Qz ?_)); clear hK K)
    refine Q2 rfl (fun h2 => ?_) (fun h2 => ?_)
    · have e2 : (i : Int).toNat = i := Int.toNat_natCast i
      have e3 : (k : Int).toNat = k := Int.toNat_natCast k
      have hN := no i k (by omega) (by omega)
      have hC := rContradict_ok (l.getD k rs0) (l.getD i rs0)
      generalize hcc : conB (l.getD k rs0) (l.getD i rs0) = cc at hN hC
      (refine Q1 (Qz (Qw (Q4 (Qw ?_)))))
      refine Xu (by with_reducible exact mixed) 9 (.p 0 (.p 1 (.p 2 (.p 4 (.p 5 (.p 6 (.f 3 (.f 7 (.m 8 .done))))))))) (by kernel_rfl) (fun K hK => ?_)
      (refine Qq rfl rfl rfl ?_; refine Qq rfl rfl rfl ?_; refine Qg rfl rfl rfl (by with_reducible exact sRes) (by omega) (Xa (by omega) (by omega)) rfl ?_; refine Qq rfl rfl rfl ?_; refine Qq rfl rfl rfl ?_; refine Qg rfl rfl rfl (by with_reducible exact sRes) (by omega) (Xa (by omega) (by omega)) rfl ?_; refine XZ (n := 17) rfl rfl rfl (by with_reducible exact lRes) rfl rfl ?_; refine XZ (n := 17) rfl rfl rfl (by with_reducible exact lRes) rfl rfl ?_)
      rw [e2, e3]
      refine QW goContradictR hC rfl rfl rfl rfl ?_
      (refine Qj (hK _ _ (Qz ?_)); clear hK K)
      refine XX rfl (fun h3 => ?_) (fun h3 => ?_)
      · (refine Qw (Qx fun K hK => ?_); refine Qv rfl rfl rfl ?_; refine Qj (hK _ _ (Qz (Q0 (Q8 (QY (QY (Q8 (Q8 (QY (QY (Q8 (QY ?_)))))))))))); clear hK K)
        refine QU [_] rfl (QQ rfl QX) (by rw [hN h3]; rfl) rfl
      · (refine Q1 (Qz (Qx fun K hK => ?_)); refine Qq rfl rfl rfl ?_; refine Qk (iadd (by omega) (by omega)) rfl rfl rfl rfl ?_; refine Qv rfl rfl rfl ?_; refine Qj (hK _ _ (Q3 ?_)); clear hK K)
        refine Q7 (k + 1) (by omega) ⟨by omega, fun j hj => ?_⟩ (by exact Qu rfl ⟨rfl, rfl, by simp only [Int.natCast_add]; rfl, trivial⟩)
        by_cases hjk : j = k
        · rw [hjk, hcc]; exact h3
        · exact hp2 j (by omega)
    · (refine Qn (Qz (Qx fun K hK => ?_)); refine Qq rfl rfl rfl ?_; refine Qk (iadd (by omega) (by omega)) rfl rfl rfl rfl ?_; refine Qv rfl rfl rfl ?_; refine Qj (hK _ _ (Q3 ?_)); clear hK K)
      refine Q7 (i + 1) (by omega) ⟨by omega, fun q hq j hj => ?_⟩ (by exact Qu rfl ⟨rfl, by simp only [Int.natCast_add]; rfl, trivial⟩)
      by_cases hqi : q = i
      · rw [hqi] at hj ⊢; exact hp2 j (by omega)
      · exact hp q (by omega) j hj
  · (refine Qn (Qz (Qw (Qx fun K hK => ?_))); refine Qv rfl rfl rfl ?_; refine Qj (hK _ _ (Qz (Q0 ?_))); clear hK K)
    refine QU [_] rfl (QQ rfl QX) (by rw [yes (fun k h1 j h2 => hp k (by omega) j h2)]; rfl) rfl
end Go.Proofs.YtlkdkbdgnjcopaaGreat
namespace Go.Proofs.YtlkdkbdgnjcopaaGreat
open Go.Own Go.Limbs
structure Dat (d : List (Int × Int)) : Prop where
  ok : ∀ p ∈ d, 1 ≤ p.1 ∧ p.1 ≤ 3 ∧ 0 ≤ p.2 ∧ p.2 ≤ p.1
  hs : ∀ t : Int, 1 ≤ t → t ≤ 3 → t ≤ d.length → (t, 0) ∈ d
def hereP (w : Int) (p : Int × Int) : Bool := decide (w ≤ p.1) && (decide (p.2 = 0) == false) && decide (p.2 = w)
def othP (w : Int) (p : Int × Int) : Bool := decide (w ≤ p.1) && (decide (p.2 = 0) == false) && !decide (p.2 = w)
def hereF (w : Int) (d : List (Int × Int)) : Nat := d.countP (hereP w)
def othF (w : Int) (d : List (Int × Int)) : Nat := d.countP (othP w)
theorem take_snoc {α : Type} {z : α} {l : List α} {i : Nat} (h : i < l.length) : l.take (i + 1) = l.take i ++ [l.getD i z] := by
  rw [List.take_add_one, List.getElem?_eq_getElem h]; simp [List.getD_eq_getElem?_getD, List.getElem?_eq_getElem h]
attribute [local irreducible] Go.Own.Fin Ok OkB OkF OkL OkM OkN OkT Ops St
theorem ones_rss : ∀ l : List Rs, ones (rss l) = true
  | [] => rfl
  | r :: l => by
    have := ones_rss l
    show ones (rsCs r ++ rss l) = true
    simp only [rsCs, List.cons_append, List.nil_append, ones, CT.one, Value.oneCell', Bool.true_and, this]
end Go.Proofs.YtlkdkbdgnjcopaaGreat
namespace Go.Own
open Go.RowKit
variable {X : Ctx} {L : AL} {B : BL} {ops : Array Oper} {K : Act → World → Prop} {r : Pl} {k : Kd}
  {x y z : Operand} {d : Nat} {t t2 t' : TypeId} {pos : String} {af : Array Edge} {g : Option (Nat × Bool)}
abbrev SofB (X : Ctx) (B : BL) (ρ : Nat → Value) (i : Nat) : BSet := fun k => Sof X B ρ k ∨ blk (ρ i) = some k
end Go.Own
namespace Go.Proofs.YtlkdkbdgnjcopaaGreat
open Go.Own Go.Limbs
attribute [local irreducible] St Ops Go.Own.Fin Ok OkB OkN OkT OkL OkF
def idxQ {α : Type} (p : α → Bool) (xs : List α) : Int := if xs.any p then (xs.findIdx p : Nat) else -1
theorem rss_drop (l : List Rs) (i : Nat) : (rss l).drop (i * 17) = rss (l.drop i) := el_drop rs_len l i
theorem rss_ones (l : List Rs) : ones (rss l) = true := el_ones (fun _ => rfl) l
theorem rss_spl (l m : List Rs) (i : Nat) : spl (rss l) (i * 17) (rss m) = rss (l.take i ++ m ++ l.drop (i + m.length)) := by
  unfold spl
  rw [rss_take, X1, ← Nat.add_mul, rss_drop, rss_app, rss_app]
theorem shift_eqA {α : Type} (l : List α) (c : α) {k : Nat} (hk : k ≤ l.length) : (((l ++ [c]).take (k + 1) ++ ((l ++ [c]).drop k).take (l.length + 1 - (k + 1)) ++ (l ++ [c]).drop (k + 1 + (((l ++ [c]).drop k).take (l.length + 1 - (k + 1))).length)).set k c) = l.take k ++ c :: l.drop k := by
  obtain ⟨a, b, rfl, rfl⟩ : ∃ a b, l = a ++ b ∧ a.length = k := ⟨l.take k, l.drop k, (List.take_append_drop k l).symm, by simp; omega⟩
  have h1 : (a ++ b ++ [c]).drop a.length = b ++ [c] := by rw [List.append_assoc, List.drop_left]
  have h2 : (a ++ b).length + 1 - (a.length + 1) = b.length := by simp
  have h3 : (b ++ [c]).take b.length = b := by rw [List.take_left]
  rw [h1, h2, h3, List.take_left, List.drop_left]
  obtain ⟨e, r, he⟩ : ∃ e r, b ++ [c] = e :: r := by cases b with
    | nil => exact ⟨c, [], rfl⟩
    | cons e r => exact ⟨e, r ++ [c], rfl⟩
  have h4 : (a ++ b ++ [c]).take (a.length + 1) = a ++ [e] := by rw [List.append_assoc, he, List.take_append]; simp [List.take_of_length_le]
  have h5 : (a ++ b ++ [c]).drop (a.length + 1 + b.length) = [] := by rw [List.drop_of_length_le]; simp; omega
  rw [h4, h5, List.append_nil, List.append_assoc, List.set_append_right _ _ (Nat.le_refl _)]
  simp
theorem dropA {α : Type} {l : List α} {i : Nat} {z : α} (h : i < l.length) : l.drop i = l.getD i z :: l.drop (i + 1) := by
  rw [List.drop_eq_getElem_cons h, List.getD_eq_getElem?_getD, List.getElem?_eq_getElem h]; rfl
theorem gorOrd24 : InGo Tryz.prog 65 := InGo.of Tryz.func65 rfl (by decide)
set_option maxHeartbeats 8000000 in
theorem rOrd24_ok (l : List Rs) (hl : l.length ≤ 10000) : Ok Tryz.prog 65 [rssC l] (rssC (ordF cmpR rs0 okR l [])) := by
  refine Ok.enter Tryz.func65 rfl _ Tryz.ntmps65 rfl ?_
  intro S w
  (refine Qw (Qx fun K hK => ?_); refine Qv rfl rfl rfl ?_; refine Qj (hK _ _ (Qz (Qw ?_))); clear hK K; refine Qx (fun K hK => ?_); refine Qv rfl rfl rfl ?_; refine Qj (hK _ _ (Qz (Qw (Qw ?_)))); clear hK K; refine Qx (fun K hK => ?_); refine Qv rfl rfl rfl ?_; refine Qj (hK _ _ (Qz (Q4 ?_))); clear hK K)
  refine Xf 3 0 35 17 rfl rfl rfl ?_
  skip
  refine Xz (α := Nat × List Rs) (fun x => x.1 ≤ l.length ∧ ordF cmpR rs0 okR (l.drop x.1) x.2 = ordF cmpR rs0 okR l [] ∧ x.2.length ≤ x.1)
    (fun x => [(0, .ct (rssC l)), (3, .own 0), (4, .ct (intC x.1))]) (fun x => [(0, .row 35 17 (rss x.2))]) (fun x => l.length - x.1) (0, []) ⟨Nat.zero_le _, rfl, Nat.le_refl _⟩ (by exact Qu rfl ⟨rfl, rfl, rfl, trivial⟩) ?_
  rintro ⟨i, out⟩ ⟨hi, hs, hol⟩
  dsimp only at hi hs hol ⊢
  (refine Qw (Qw (Qx fun K hK => ?_)); refine Qq rfl rfl rfl ?_; refine Qq rfl rfl rfl ?_; refine Qd rfl rfl (by with_reducible exact sRes.und) (List.length_map ..) rfl ?_; refine Qk ilss rfl rfl rfl rfl ?_; refine Qj (hK _ _ (Qz ?_)); clear hK K)
  refine Q2 rfl (fun h => ?_) (fun h => ?_)
  rotate_left
  · have hi' : i = l.length := by omega
    rw [hi', List.drop_length] at hs
    refine Yq 0 _ rfl (Zz _ _) X7 ?_
    (refine Qn (Qz (Qw (Qx fun K hK => ?_))); refine Qq rfl rfl rfl ?_; refine Qv rfl rfl rfl ?_; refine Qj (hK _ _ (Qz (Q0 ?_))); clear hK K)
    refine QU [_] rfl (QQ rfl QX) (by rw [← hs]; rfl) rfl
  have e2 : (i : Int).toNat = i := Int.toNat_natCast i
  rw [dropA (z := rs0) (l := l) (i := i) (by omega)] at hs
  simp only [ordF] at hs
  (refine Q1 (Qz (Qw (Q4 (Qw (Qw (Qx fun K hK => ?_)))))); refine Qq rfl rfl rfl ?_; refine Qq rfl rfl rfl ?_; refine Qg rfl rfl rfl (by with_reducible exact sRes) (by omega) (Xa (by omega) (by omega)) rfl ?_; refine XZ (n := 17) rfl rfl rfl (by with_reducible exact lRes) rfl rfl ?_)
  rw [e2]
  generalize hc : l.getD i rs0 = c at hs
  skip
  refine Ops.callF gorValidR rfl (rValidR_ok c) rfl rfl rfl rfl ?_
  (refine Qp rfl rfl rfl ?_; refine Qj (hK _ _ (Qz ?_)); clear hK K)
  refine XX rfl (fun h2 => ?_) (fun h2 => ?_)
  · rw [if_neg (by intro h3; rw [h3] at h2; cases h2)] at hs
    (refine Qn (Qz (Qx fun K hK => ?_)); refine Qq rfl rfl rfl ?_; refine Qk (iadd (by omega) (by omega)) rfl rfl rfl rfl ?_; refine Qv rfl rfl rfl ?_; refine Qj (hK _ _ (Q3 ?_)); clear hK K)
    refine Q7 (i + 1, out) (by dsimp only; omega) ⟨by dsimp only; omega, hs, by dsimp only; omega⟩ (by exact Qu rfl ⟨rfl, rfl, by simp only [Int.natCast_add]; rfl, trivial⟩)
  rw [if_pos (by cases h3 : okR c with | true => rfl | false => rw [h3] at h2; cases h2)] at hs
  (refine Q1 (Qz (Qw (Qx fun K hK => ?_))); refine Qq rfl rfl rfl ?_)
  refine Yv out.length rfl rfl rfl (by decide) (X1 out) (by with_reducible exact sRes.und) rfl ?_
  (refine Qv rfl rfl rfl ?_; refine Qj (hK _ _ (Qz (Qw (Q4 ?_)))); clear hK K)
  refine Xz (α := Nat) (fun k => k ≤ out.length ∧ posF cmpR rs0 out c k = posF cmpR rs0 out c out.length)
    (fun k => [(0, .ct (rssC l)), (3, .own 0), (4, .ct (intC i)), (5, .ct (intC k))]) (fun _ => [(0, .row 35 17 (rss out))]) (fun k => k) out.length ⟨Nat.le_refl _, rfl⟩ (by exact Qu rfl ⟨rfl, rfl, rfl, rfl, trivial⟩) ?_
  rintro k ⟨hk, hp⟩
  dsimp only at hk hp ⊢
  (refine Qw (Qw ?_))
  refine Xu (by with_reducible exact mixed) 15 (.p 0 (.p 1 (.p 2 (.p 3 (.p 4 (.p 5 (.p 6 (.p 8 (.p 9 (.p 10 (.f 7 (.f 11 (.m 12 (.p 13 (.p 14 .done))))))))))))))) (by kernel_rfl) (fun K hK => ?_)
  (refine Qq rfl rfl rfl ?_; refine Qk igtr rfl rfl rfl rfl ?_; refine Qq rfl rfl rfl ?_)
  refine Q5 22 rfl (fun h3 => ?_) (fun h3 => ?_)
  · have e1 : ((k : Int) - 1).toNat = k - 1 := by omega
    rw [posF_step _ _ _ _ (by omega)] at hp
    (refine Qq rfl rfl rfl ?_; refine Qq rfl rfl rfl ?_; refine Qk (isub (by omega) (by omega)) rfl rfl rfl rfl ?_)
    refine Xi out.length rfl rfl rfl (X1 out) rfl (by with_reducible exact sRes) (by omega) (by omega) rfl ?_
    (refine Qq rfl rfl rfl ?_; refine Qq rfl rfl rfl ?_; refine Qg rfl rfl rfl (by with_reducible exact sRes) (by omega) (Xa (by omega) (by omega)) rfl ?_)
    refine ldE rsCs rs0 rs_len rfl rfl rfl rfl rfl (by omega) (by with_reducible exact lRes) rfl ?_
    rw [e1]
    (refine XZ (n := 17) rfl rfl rfl (by with_reducible exact lRes) rfl rfl ?_)
    rw [e2, hc]
    generalize hx : out.getD (k - 1) rs0 = x at hp
    refine QW gorCmpR (rcmpR_ok x c) rfl rfl rfl rfl ?_
    (refine Qk igtr rfl rfl rfl rfl ?_; refine QZ rfl rfl rfl rfl ?_; refine Qj (hK _ _ (Qz ?_)); clear hK K)
    refine Q2 rfl (fun h4 => ?_) (fun h4 => ?_)
    · rw [if_pos h4] at hp
      (refine Q1 (Qz (Q4 (Qx fun K hK => ?_))); refine Qq rfl rfl rfl ?_; refine Qk (isub (by omega) (by omega)) rfl rfl rfl rfl ?_; refine Qv rfl rfl rfl ?_; refine Qj (hK _ _ (Qb (Q3 ?_))); clear hK K)
      refine Q7 (k - 1) (by omega) ⟨by omega, hp⟩ (by rw [show ((k - 1 : Nat) : Int) = (k : Int) - 1 by omega]; exact Qu rfl ⟨rfl, rfl, rfl, rfl, trivial⟩)
    rw [if_neg h4] at hp
    (refine Qn (Qz (Qw (Qw ?_))))
    refine Xu (by with_reducible exact mixed) 15 (.p 0 (.p 1 (.p 2 (.p 3 (.p 4 (.p 5 (.p 6 (.p 8 (.p 9 (.p 10 (.f 7 (.f 11 (.m 12 (.p 13 (.p 14 .done))))))))))))))) (by kernel_rfl) (fun K hK => ?_)
    (refine Qq rfl rfl rfl ?_; refine Qk igtr rfl rfl rfl rfl ?_; refine Qq rfl rfl rfl ?_)
    refine Q5 39 rfl (fun _ => ?_) (fun h5 => absurd h3 h5)
    (refine Qq rfl rfl rfl ?_; refine Qq rfl rfl rfl ?_; refine Qk (isub (by omega) (by omega)) rfl rfl rfl rfl ?_)
    refine Xi out.length rfl rfl rfl (X1 out) rfl (by with_reducible exact sRes) (by omega) (by omega) rfl ?_
    (refine Qq rfl rfl rfl ?_; refine Qq rfl rfl rfl ?_; refine Qg rfl rfl rfl (by with_reducible exact sRes) (by omega) (Xa (by omega) (by omega)) rfl ?_)
    refine ldE rsCs rs0 rs_len rfl rfl rfl rfl rfl (by omega) (by with_reducible exact lRes) rfl ?_
    rw [e1, hx]
    (refine XZ (n := 17) rfl rfl rfl (by with_reducible exact lRes) rfl rfl ?_)
    rw [e2, hc]
    refine QW gorCmpR (rcmpR_ok x c) rfl rfl rfl rfl ?_
    (refine Qk ieql rfl rfl rfl rfl ?_; refine QZ rfl rfl rfl rfl ?_; refine Qj (hK _ _ (Qz ?_)); clear hK K)
    refine Q2 rfl (fun h5 => ?_) (fun h5 => ?_)
    · have hput : putF cmpR rs0 out c = out := by
        unfold putF
        rw [← hp, if_pos ⟨by omega, by rw [hx]; exact h5⟩]
      rw [hput] at hs
      (refine Qn (Qz (Qx fun K hK => ?_)); refine Qq rfl rfl rfl ?_; refine Qk (iadd (by omega) (by omega)) rfl rfl rfl rfl ?_; refine Qv rfl rfl rfl ?_; refine Qj (hK _ _ (Q3 ?_)); clear hK K)
      refine Q7 (i + 1, out) (by dsimp only; omega) ⟨by dsimp only; omega, hs, by dsimp only; omega⟩ (by exact Qu rfl ⟨rfl, rfl, by simp only [Int.natCast_add]; rfl, trivial⟩)
    have hput : putF cmpR rs0 out c = out.take k ++ c :: out.drop k := by
      unfold putF
      rw [← hp, if_neg (fun h6 => h5 (by rw [← hx]; exact h6.2))]
    have e3 : ((k : Int) + 1).toNat = k + 1 := by omega
    have e4 : (k : Int).toNat = k := by omega
    generalize hl2' : (out ++ [c]).take (k + 1) ++ ((out ++ [c]).drop k).take (out.length + 1 - (k + 1)) ++ (out ++ [c]).drop (k + 1 + (((out ++ [c]).drop k).take (out.length + 1 - (k + 1))).length) = l2
    have hl3 : l2.set k c = out.take k ++ c :: out.drop k := by rw [← hl2']; exact shift_eqA out c hk
    have hlen2 : k < l2.length := by
      have := congrArg List.length hl3
      simp at this
      omega
    have hlen3 : l2.length = out.length + 1 := by
      have := congrArg List.length hl3
      simp at this
      omega
    have hl2 : rss l2 = spl (rss (out ++ [c])) (((k : Int) + 1).toNat * 17) (((rss (out ++ [c])).drop ((k : Int).toNat * 17)).take (min (out.length + 1 - (k : Int).toNat) (out.length + 1 - ((k : Int) + 1).toNat) * 17)) := by
      rw [e3, e4, show min (out.length + 1 - k) (out.length + 1 - (k + 1)) = out.length + 1 - (k + 1) by omega, rss_drop, rss_take, rss_spl, ← hl2']
    (refine Q1 (Qz (Qw (Qx fun K hK => ?_))); refine Qq rfl rfl rfl ?_; refine Qq rfl rfl rfl ?_; refine Qq rfl rfl rfl ?_; refine Qg rfl rfl rfl (by with_reducible exact sRes) (by omega) (Xa (by omega) (by omega)) rfl ?_; refine XZ (n := 17) rfl rfl rfl (by with_reducible exact lRes) rfl rfl ?_)
    rw [e2, hc]
    refine X6 (n := 17) rfl rfl (by with_reducible exact sRes) rfl rfl (by decide) rfl ?_
    refine Qs out.length (rss (out ++ [c])) rfl rfl rfl rfl (by with_reducible exact sRes) (X1 out) rfl (by omega) (by omega) (ZK out c) rfl ?_
    (refine Qv rfl rfl rfl ?_; refine Qj (hK _ _ (Qz (Qw ?_))); clear hK K)
    refine Xu (by with_reducible exact mixed) 7 (.p 0 (.p 1 (.p 2 (.p 4 (.p 5 (.p 3 (.p 6 (.a 7 .done)))))))) (by kernel_rfl) (fun K hK => ?_)
    (refine Qq rfl rfl rfl ?_; refine Qq rfl rfl rfl ?_; refine Qk (iadd (by omega) (by omega)) rfl rfl rfl rfl ?_; refine Qq rfl rfl rfl ?_; refine Qq rfl rfl rfl ?_)
    refine Ops.copyIn (out.length + 1) (rss l2) rfl rfl rfl rfl rfl (by with_reducible exact sRes) (by rw [X1]; simp) (by omega) (by omega) (by omega) (by omega) (by omega) (rss_ones _) rfl hl2 rfl rfl rfl ?_
    (refine Qj (hK _ _ (Qz ?_)); clear hK K; refine Qx (fun K hK => ?_); refine Qq rfl rfl rfl ?_; refine Qq rfl rfl rfl ?_; refine Qq rfl rfl rfl ?_; refine Qq rfl rfl rfl ?_; refine Qg rfl rfl rfl (by with_reducible exact sRes) (by omega) (Xa (by omega) (by omega)) rfl ?_; refine XZ (n := 17) rfl rfl rfl (by with_reducible exact lRes) rfl rfl ?_)
    rw [e2, hc]
    refine Xi (out.length + 1) rfl rfl rfl (by rw [X1, hlen3]) rfl (by with_reducible exact sRes) (by omega) (by omega) rfl ?_
    refine stE rsCs c rs_len rfl rfl rfl rfl rfl (by rw [e4]; omega) (by with_reducible exact szRes) ?_
    rw [e4, hl3]
    (refine Qj (hK _ _ (Qz ?_)); clear hK K; refine Qx (fun K hK => ?_); refine Qq rfl rfl rfl ?_; refine Qk (iadd (by omega) (by omega)) rfl rfl rfl rfl ?_; refine Qv rfl rfl rfl ?_; refine Qj (hK _ _ (Q3 ?_)); clear hK K)
    rw [hput] at hs
    refine Q7 (i + 1, out.take k ++ c :: out.drop k) (by dsimp only; omega) ⟨by dsimp only; omega, hs, by simp only [List.length_append, List.length_take, List.length_cons, List.length_drop]; omega⟩ (by exact Qu rfl ⟨rfl, rfl, by simp only [Int.natCast_add]; rfl, trivial⟩)
  · have hk0 : k = 0 := by omega
    subst hk0
    have hp : 0 = posF cmpR rs0 out c out.length := by rw [← hp]; rfl
    (refine Qy rfl rfl rfl ?_; refine Qy rfl rfl rfl ?_; refine Qy rfl rfl rfl ?_; refine Qy rfl rfl rfl ?_; refine Qy rfl rfl rfl ?_; refine Qy rfl rfl rfl ?_; refine Qy rfl rfl rfl ?_; refine Qy rfl rfl rfl ?_; refine Qy rfl rfl rfl ?_; refine Qy rfl rfl rfl ?_; refine Qy rfl rfl rfl ?_; refine QK rfl rfl rfl rfl ?_; refine Qj (hK _ _ (Qz (Xx rfl (Qn (Qz (Qw (Qw ?_))))))); clear hK K)
    refine Xu (by with_reducible exact mixed) 15 (.p 0 (.p 1 (.p 2 (.p 3 (.p 4 (.p 5 (.p 6 (.p 8 (.p 9 (.p 10 (.f 7 (.f 11 (.m 12 (.p 13 (.p 14 .done))))))))))))))) (by kernel_rfl) (fun K hK => ?_)
    (refine Qq rfl rfl rfl ?_; refine Qk igtr rfl rfl rfl rfl ?_; refine Qq rfl rfl rfl ?_; refine Qy rfl rfl rfl ?_; refine Qy rfl rfl rfl ?_; refine Qy rfl rfl rfl ?_; refine Qy rfl rfl rfl ?_; refine Qy rfl rfl rfl ?_; refine Qy rfl rfl rfl ?_; refine Qy rfl rfl rfl ?_; refine Qy rfl rfl rfl ?_; refine Qy rfl rfl rfl ?_; refine Qy rfl rfl rfl ?_; refine Qy rfl rfl rfl ?_; refine QK rfl rfl rfl rfl ?_; refine Qj (hK _ _ (Qz (Xx rfl (Q1 (Qz (Qw ?_)))))); clear hK K; refine Qx (fun K hK => ?_); refine Qq rfl rfl rfl ?_; refine Qq rfl rfl rfl ?_; refine Qq rfl rfl rfl ?_; refine Qg rfl rfl rfl (by with_reducible exact sRes) (by omega) (Xa (by omega) (by omega)) rfl ?_; refine XZ (n := 17) rfl rfl rfl (by with_reducible exact lRes) rfl rfl ?_)
    refine Q5 39 rfl (fun h5 => absurd h5 h3) (fun _ => ?_)
    skip
    have hput : putF cmpR rs0 out c = out.take 0 ++ c :: out.drop 0 := by
      unfold putF
      rw [← hp, if_neg (fun h6 => h6.1 rfl)]
    have e3 : (((0 : Nat) : Int) + 1).toNat = 0 + 1 := by omega
    have e4 : ((0 : Nat) : Int).toNat = 0 := by omega
    generalize hl2' : (out ++ [c]).take (0 + 1) ++ ((out ++ [c]).drop 0).take (out.length + 1 - (0 + 1)) ++ (out ++ [c]).drop (0 + 1 + (((out ++ [c]).drop 0).take (out.length + 1 - (0 + 1))).length) = l2
    have hl3 : l2.set 0 c = out.take 0 ++ c :: out.drop 0 := by rw [← hl2']; exact shift_eqA out c hk
    have hlen2 : 0 < l2.length := by
      have := congrArg List.length hl3
      simp at this
      omega
    have hlen3 : l2.length = out.length + 1 := by
      have := congrArg List.length hl3
      simp at this
      omega
    have hl2 : rss l2 = spl (rss (out ++ [c])) ((((0 : Nat) : Int) + 1).toNat * 17) (((rss (out ++ [c])).drop (((0 : Nat) : Int).toNat * 17)).take (min (out.length + 1 - ((0 : Nat) : Int).toNat) (out.length + 1 - (((0 : Nat) : Int) + 1).toNat) * 17)) := by
      rw [e3, e4, show min (out.length + 1 - 0) (out.length + 1 - (0 + 1)) = out.length + 1 - (0 + 1) by omega, rss_drop, rss_take, rss_spl, ← hl2']
    skip
    rw [e2, hc]
    refine X6 (n := 17) rfl rfl (by with_reducible exact sRes) rfl rfl (by decide) rfl ?_
    refine Qs out.length (rss (out ++ [c])) rfl rfl rfl rfl (by with_reducible exact sRes) (X1 out) rfl (by omega) (by omega) (ZK out c) rfl ?_
    (refine Qv rfl rfl rfl ?_; refine Qj (hK _ _ (Qz (Qw ?_))); clear hK K)
    refine Xu (by with_reducible exact mixed) 7 (.p 0 (.p 1 (.p 2 (.p 4 (.p 5 (.p 3 (.p 6 (.a 7 .done)))))))) (by kernel_rfl) (fun K hK => ?_)
    (refine Qq rfl rfl rfl ?_; refine Qq rfl rfl rfl ?_; refine Qk (iadd (by omega) (by omega)) rfl rfl rfl rfl ?_; refine Qq rfl rfl rfl ?_; refine Qq rfl rfl rfl ?_)
    refine Ops.copyIn (out.length + 1) (rss l2) rfl rfl rfl rfl rfl (by with_reducible exact sRes) (by rw [X1]; simp) (by omega) (by omega) (by omega) (by omega) (by omega) (rss_ones _) rfl hl2 rfl rfl rfl ?_
    (refine Qj (hK _ _ (Qz ?_)); clear hK K; refine Qx (fun K hK => ?_); refine Qq rfl rfl rfl ?_; refine Qq rfl rfl rfl ?_; refine Qq rfl rfl rfl ?_; refine Qq rfl rfl rfl ?_; refine Qg rfl rfl rfl (by with_reducible exact sRes) (by omega) (Xa (by omega) (by omega)) rfl ?_; refine XZ (n := 17) rfl rfl rfl (by with_reducible exact lRes) rfl rfl ?_)
    rw [e2, hc]
    refine Xi (out.length + 1) rfl rfl rfl (by rw [X1, hlen3]) rfl (by with_reducible exact sRes) (by omega) (by omega) rfl ?_
    refine stE rsCs c rs_len rfl rfl rfl rfl rfl (by rw [e4]; omega) (by with_reducible exact szRes) ?_
    rw [e4, hl3]
    (refine Qj (hK _ _ (Qz ?_)); clear hK K; refine Qx (fun K hK => ?_); refine Qq rfl rfl rfl ?_; refine Qk (iadd (by omega) (by omega)) rfl rfl rfl rfl ?_; refine Qv rfl rfl rfl ?_; refine Qj (hK _ _ (Q3 ?_)); clear hK K)
    rw [hput] at hs
    refine Q7 (i + 1, out.take 0 ++ c :: out.drop 0) (by dsimp only; omega) ⟨by dsimp only; omega, hs, by simp only [List.length_append, List.length_take, List.length_cons, List.length_drop]; omega⟩ (by exact Qu rfl ⟨rfl, rfl, by simp only [Int.natCast_add]; rfl, trivial⟩)
attribute [local irreducible] OkM
theorem aPairs3 : ArrT Tryz.prog 174 173 3 2 (.agg #[.int .i64 0, .int .i64 0, .int .i64 0, .int .i64 0, .int .i64 0, .int .i64 0]) := ⟨Tryz.underlying174, by kernel_rfl, by kernel_rfl⟩
theorem gorCompareTrace : InGo Tryz.prog 81 := InGo.of Tryz.func81 rfl (by decide)
set_option maxHeartbeats 4000000 in
theorem rCompareTrace_ok (x y : Tk) : Ok Tryz.prog 81 [tkC x, tkC y] (intC (cmpT x y)) := by
  have hR : cmpT x y = cmpL (tkI x) (tkI y) := rfl
  refine Ok.enter Tryz.func81 rfl _ Tryz.ntmps81 rfl ?_
  intro S w
  (refine Qw (Qx fun K hK => ?_); refine Xk 0 rfl rfl rfl rfl rfl rfl rfl ?_; refine Xk 1 rfl rfl rfl rfl rfl rfl rfl ?_; refine Qv rfl rfl rfl ?_; refine Qj (hK _ _ (Qz (Qw (Qw ?_)))); clear hK K; refine Qx (fun K hK => ?_); refine QV rfl rfl rfl (by with_reducible first | exact fTk0 | exact fTk1 | exact fTk2 | exact fWr0 | exact fWr1 | exact X0 | exact XK | exact Xl | exact fStm1 | exact fCn0 | exact fCn1 | exact fCn2 | exact fCn3 | exact fCs0 | exact fCs1) rfl ?_; refine QJ rfl rfl rfl rfl rfl (by with_reducible first | exact lInt | exact Q9 | exact Q6 | exact lRess) rfl ?_; refine QV rfl rfl rfl (by with_reducible first | exact fTk0 | exact fTk1 | exact fTk2 | exact fWr0 | exact fWr1 | exact X0 | exact XK | exact Xl | exact fStm1 | exact fCn0 | exact fCn1 | exact fCn2 | exact fCn3 | exact fCs0 | exact fCs1) rfl ?_; refine QJ rfl rfl rfl rfl rfl (by with_reducible first | exact lInt | exact Q9 | exact Q6 | exact lRess) rfl ?_)
  refine Xo (n := 1) (cs := pr x.va y.va) rfl (by with_reducible exact Zm) (.one rfl rfl rfl rfl (.one rfl rfl rfl rfl .nil)) rfl ?_
  (refine QV rfl rfl rfl (by with_reducible first | exact fTk0 | exact fTk1 | exact fTk2 | exact fWr0 | exact fWr1 | exact X0 | exact XK | exact Xl | exact fStm1 | exact fCn0 | exact fCn1 | exact fCn2 | exact fCn3 | exact fCs0 | exact fCs1) rfl ?_; refine QJ rfl rfl rfl rfl rfl (by with_reducible first | exact lInt | exact Q9 | exact Q6 | exact lRess) rfl ?_; refine Zg rfl rfl (by with_reducible exact uAddr) (by with_reducible exact uInt') (wrap_fin _) rfl ?_; refine QV rfl rfl rfl (by with_reducible first | exact fTk0 | exact fTk1 | exact fTk2 | exact fWr0 | exact fWr1 | exact X0 | exact XK | exact Xl | exact fStm1 | exact fCn0 | exact fCn1 | exact fCn2 | exact fCn3 | exact fCs0 | exact fCs1) rfl ?_; refine QJ rfl rfl rfl rfl rfl (by with_reducible first | exact lInt | exact Q9 | exact Q6 | exact lRess) rfl ?_; refine Zg rfl rfl (by with_reducible exact uAddr) (by with_reducible exact uInt') (wrap_fin _) rfl ?_)
  refine Xo (n := 1) (cs := pr (x.ds.val : Int) (y.ds.val : Int)) rfl (by with_reducible exact Zm) (.one rfl rfl rfl rfl (.one rfl rfl rfl rfl .nil)) rfl ?_
  (refine QV rfl rfl rfl (by with_reducible first | exact fTk0 | exact fTk1 | exact fTk2 | exact fWr0 | exact fWr1 | exact X0 | exact XK | exact Xl | exact fStm1 | exact fCn0 | exact fCn1 | exact fCn2 | exact fCn3 | exact fCs0 | exact fCs1) rfl ?_; refine QJ rfl rfl rfl rfl rfl (by with_reducible first | exact lInt | exact Q9 | exact Q6 | exact lRess) rfl ?_; refine QV rfl rfl rfl (by with_reducible first | exact fTk0 | exact fTk1 | exact fTk2 | exact fWr0 | exact fWr1 | exact X0 | exact XK | exact Xl | exact fStm1 | exact fCn0 | exact fCn1 | exact fCn2 | exact fCn3 | exact fCs0 | exact fCs1) rfl ?_; refine QJ rfl rfl rfl rfl rfl (by with_reducible first | exact lInt | exact Q9 | exact Q6 | exact lRess) rfl ?_)
  refine Xo (n := 1) (cs := pr x.pr y.pr) rfl (by with_reducible exact Zm) (.one rfl rfl rfl rfl (.one rfl rfl rfl rfl .nil)) rfl ?_
  refine Zn (n := 2) (prs (tkI x) (tkI y)) rfl (by with_reducible exact aPairs3) rfl ⟨rfl, rfl, rfl, rfl, rfl, rfl, rfl, rfl, rfl, trivial⟩ rfl ?_
  have hlx : (tkI x).length = 3 := rfl
  have hly : (tkI y).length = 3 := rfl
  generalize tkI x = xs at hlx hR
  generalize tkI y = ys at hly hR
  (refine Qq rfl rfl rfl ?_; refine Qj (hK _ _ (Qz (Q4 ?_))); clear hK K)
  refine Xz (α := Nat) (fun j => j ≤ 3 ∧ cmpL (xs.drop j) (ys.drop j) = cmpT x y)
    (fun j => [(24, .ct (.fr (aggT (prs xs ys).flatten))), (25, .ct (intC j))]) (fun _ => [(1, .box 86 (tkCs y)), (0, .box 86 (tkCs x))]) (fun j => 3 - j) 0 ⟨Nat.zero_le _, hR.symm⟩ (by exact Qu rfl ⟨rfl, rfl, trivial⟩) ?_
  rintro j ⟨hj, hc⟩
  dsimp only at hj hc ⊢
  (refine Qw (Qx fun K hK => ?_); refine Qk ilss rfl rfl rfl rfl ?_; refine Qj (hK _ _ (Qz (Qw ?_))); clear hK K)
  refine Q2 rfl (fun h => ?_) (fun h => ?_)
  · have h1 : j < xs.length := by omega
    have h2 : j < ys.length := by omega
    have hdr : cmpL (xs.drop j) (ys.drop j) = if cmp3 (xs.getD j 0) (ys.getD j 0) ≠ 0 then cmp3 (xs.getD j 0) (ys.getD j 0) else cmpL (xs.drop (j + 1)) (ys.drop (j + 1)) := by
      rw [List.drop_eq_getElem_cons h1, List.drop_eq_getElem_cons h2, List.getD_eq_getElem?_getD, List.getElem?_eq_getElem h1, List.getD_eq_getElem?_getD, List.getElem?_eq_getElem h2]; rfl
    have hat := prs_at h1 h2
    generalize xs.getD j 0 = p at hdr hat
    generalize ys.getD j 0 = q at hdr hat
    (refine Q1 (Qz (Qw (Q4 (Qw (Qx fun K hK => ?_))))))
    refine Ops.idxV (n := 2) rfl rfl rfl (by with_reducible exact aPairs3) (by with_reducible exact uPair) rfl (prs_len xs ys) (by omega) (by omega) (by rw [Int.toNat_natCast]; exact hat) rfl ?_
    refine Qh 2 rfl rfl (by with_reducible exact zvPair) rfl rfl rfl ?_
    refine Qe 2 rfl rfl rfl rfl rfl (by with_reducible exact szPair) rfl rfl ?_
    (refine Qj (hK _ _ (Qz (Qw ?_))); clear hK K; refine Qx (fun K hK => ?_))
    refine Z7 (n := 1) rfl rfl rfl rfl (by with_reducible exact Zm) (by decide) (by decide) rfl ?_
    (refine QJ rfl rfl rfl rfl rfl (by with_reducible first | exact lInt | exact Q9 | exact Q6 | exact lRess) rfl ?_)
    refine Z7 (n := 1) rfl rfl rfl rfl (by with_reducible exact Zm) (by decide) (by decide) rfl ?_
    (refine QJ rfl rfl rfl rfl rfl (by with_reducible first | exact lInt | exact Q9 | exact Q6 | exact lRess) rfl ?_; refine Qk ineq rfl rfl rfl rfl ?_; refine Qj (hK _ _ (Qz ?_)); clear hK K)
    refine Q2 rfl (fun h3 => ?_) (fun h3 => ?_)
    · have hne : cmp3 p q ≠ 0 := by rw [Yj]; split <;> (try split) <;> omega
      (refine Qw (Qx fun K hK => ?_))
      refine Z7 (n := 1) rfl rfl rfl rfl (by with_reducible exact Zm) (by decide) (by decide) rfl ?_
      (refine QJ rfl rfl rfl rfl rfl (by with_reducible first | exact lInt | exact Q9 | exact Q6 | exact lRess) rfl ?_)
      refine Z7 (n := 1) rfl rfl rfl rfl (by with_reducible exact Zm) (by decide) (by decide) rfl ?_
      (refine QJ rfl rfl rfl rfl rfl (by with_reducible first | exact lInt | exact Q9 | exact Q6 | exact lRess) rfl ?_)
      refine QW gorless (rless_ok p q) rfl rfl rfl rfl ?_
      (refine Qv rfl rfl rfl ?_; refine Qj (hK _ _ (Qz (Q0 (Q8 (QY (QY (Q8 (QY ?_)))))))); clear hK K)
      refine QU [_] rfl (QQ rfl QX) (by rw [← hc, hdr, if_pos hne]; rfl) rfl
    · have he : cmp3 p q = 0 := by rw [Classical.not_not.1 h3]; exact Yj q q |>.trans (by rw [if_neg (Int.lt_irrefl _), if_neg (Int.lt_irrefl _)])
      (refine Q1 (Qz (Qx fun K hK => ?_)); refine Qk (iadd (by omega) (by omega)) rfl rfl rfl rfl ?_; refine Qq rfl rfl rfl ?_; refine Qj (hK _ _ (Q3 ?_)); clear hK K)
      rw [he] at hdr
      refine Qm 2 ?_
      refine Q7 (j + 1) (by omega) ⟨by omega, by rw [← hc, hdr]; rfl⟩ (by exact Qu rfl ⟨rfl, by simp only [Int.natCast_add]; rfl, trivial⟩)
  · have hj' : j = 3 := by omega
    rw [hj', List.drop_of_length_le (by omega), List.drop_of_length_le (by omega)] at hc
    (refine Qn (Qz (Qw (Qx fun K hK => ?_))); refine Qv rfl rfl rfl ?_; refine Qj (hK _ _ (Qz (Q0 ?_))); clear hK K)
    refine QU [_] rfl (QQ rfl QX) (by rw [← hc]; rfl) rfl
theorem gorOf : InGo Tryz.prog 40 := InGo.of Tryz.func40 rfl (by decide)
theorem ord_sd (l : List Rs) : ordF cmpR rs0 okR l [] = sd cmpR (l.filter okR) := by
  have h1 := ordF_spec ordR rs0 okR l [] List.Pairwise.nil
  have h2 := Yw ordR (l.filter okR)
  refine Up.ext ordR h1.1 h2.1 fun x => ?_
  rw [h1.2 x, h2.2 x, List.mem_filter]
  exact ⟨fun h => h.elim (fun h => by cases h) id, Or.inr⟩
set_option maxHeartbeats 4000000 in
theorem rOf_ok (l : List Rs) (t : Tk) (hl : l.length ≤ 10000) : OkF Tryz.prog 40 [rssC l, tkC t] 35 17 (rss (ofF l t)) := by
  have hO := rOrd24_ok l hl
  rw [ord_sd l] at hO
  have hol : (sd cmpR (l.filter okR)).length ≤ 10000 := by
    have := sd_len cmpR (l.filter okR)
    have := List.length_filter_le okR l
    omega
  unfold ofF
  generalize sd cmpR (l.filter okR) = o at hO hol ⊢
  refine OkF.enter Tryz.func40 rfl _ Tryz.ntmps40 rfl ?_
  intro S w
  (refine Qw (Qx fun K hK => ?_); refine Xk 0 rfl rfl rfl rfl rfl rfl rfl ?_; refine Qv rfl rfl rfl ?_; refine Qj (hK _ _ (Qz (Qw ?_))); clear hK K; refine Qx (fun K hK => ?_); refine Qq rfl rfl rfl ?_)
  refine QW gorOrd24 hO rfl rfl rfl rfl ?_
  (refine Qv rfl rfl rfl ?_; refine Qj (hK _ _ (Qz (Qw ?_))); clear hK K; refine Qx (fun K hK => ?_); refine Qv rfl rfl rfl ?_; refine Qj (hK _ _ (Qz (Qw (Qw ?_)))); clear hK K; refine Qx (fun K hK => ?_); refine Qv rfl rfl rfl ?_; refine Qj (hK _ _ (Qz (Q4 ?_))); clear hK K)
  refine Xf 6 1 35 17 rfl rfl rfl ?_
  refine Xz (α := Nat) (fun i => i ≤ o.length)
    (fun i => [(3, .own 0), (5, .ct (rssC o)), (6, .own 1), (7, .ct (intC i))]) (fun i => [(1, .row 35 17 (rss ((o.take i).filter fun r => decide (trOf r = t)))), (0, .box 86 (tkCs t))]) (fun i => o.length - i) 0 (Nat.zero_le _) (by exact Qu rfl ⟨rfl, rfl, rfl, rfl, trivial⟩) ?_
  intro i hi
  try dsimp only at hi
  try dsimp only
  (refine Qw (Qw (Qx fun K hK => ?_)); refine Qq rfl rfl rfl ?_; refine Qq rfl rfl rfl ?_; refine Qd rfl rfl (by with_reducible exact sRes.und) (List.length_map ..) rfl ?_; refine Qk ilss rfl rfl rfl rfl ?_; refine Qj (hK _ _ (Qz ?_)); clear hK K)
  refine Q2 rfl (fun h => ?_) (fun h => ?_)
  · have e2 : (i : Int).toNat = i := Int.toNat_natCast i
    have hs := Zo (fun r => decide (trOf r = t)) (z := rs0) (i := i) (l := o) (by omega)
    have hfl := Yu (fun r => decide (trOf r = t)) o i
    generalize hc : o.getD i rs0 = c at hs
    generalize (o.take i).filter (fun r => decide (trOf r = t)) = out at hs hfl ⊢
    (refine Q1 (Qz (Qw (Q4 (Qw ?_)))))
    refine Xu (by with_reducible exact mixed) 7 (.p 0 (.p 1 (.p 2 (.f 3 (.f 5 (.m 4 (.p 6 .done))))))) (by kernel_rfl) (fun K hK => ?_)
    (refine Qq rfl rfl rfl ?_; refine Qq rfl rfl rfl ?_; refine Qg rfl rfl rfl (by with_reducible exact sRes) (by omega) (Xa (by omega) (by omega)) rfl ?_; refine XZ (n := 17) rfl rfl rfl (by with_reducible exact lRes) rfl rfl ?_; refine Qa (n := 3) rfl rfl rfl rfl rfl (by with_reducible exact Z4) rfl ?_)
    rw [e2, hc]
    refine QW gorTraceOf (rTraceOf_ok c) rfl rfl rfl rfl ?_
    refine eqTk (trOf c) t rfl rfl rfl rfl rfl ?_
    (refine Qj (hK _ _ (Qz ?_)); clear hK K)
    refine Q2 rfl (fun h2 => ?_) (fun h2 => ?_)
    · rw [if_pos (decide_eq_true h2)] at hs
      (refine Qx (fun K hK => ?_); refine Qq rfl rfl rfl ?_; refine Qq rfl rfl rfl ?_; refine Qq rfl rfl rfl ?_; refine Qg rfl rfl rfl (by with_reducible exact sRes) (by omega) (Xa (by omega) (by omega)) rfl ?_; refine XZ (n := 17) rfl rfl rfl (by with_reducible exact lRes) rfl rfl ?_)
      rw [e2, hc]
      refine X6 (n := 17) rfl rfl (by with_reducible exact sRes) rfl rfl (by decide) rfl ?_
      refine Qs out.length (rss (out ++ [c])) rfl rfl rfl rfl (by with_reducible exact sRes) (X1 out) rfl (by omega) (by omega) (ZK out c) rfl ?_
      (refine Qv rfl rfl rfl ?_; refine Qj (hK _ _ (Qz ?_)); clear hK K; refine Qx (fun K hK => ?_); refine Qq rfl rfl rfl ?_; refine Qk (iadd (by omega) (by omega)) rfl rfl rfl rfl ?_; refine Qv rfl rfl rfl ?_; refine Qj (hK _ _ (Q3 ?_)); clear hK K)
      refine Q7 (i + 1) (by omega) (by omega) (by rw [hs]; exact Qu rfl ⟨rfl, rfl, rfl, by simp only [Int.natCast_add]; rfl, trivial⟩)
    · rw [if_neg (by rw [decide_eq_false h2]; decide)] at hs
      (refine Q1 (Qz (Qx fun K hK => ?_)); refine Qq rfl rfl rfl ?_; refine Qk (iadd (by omega) (by omega)) rfl rfl rfl rfl ?_; refine Qv rfl rfl rfl ?_; refine Qj (hK _ _ (Q3 ?_)); clear hK K)
      refine Q7 (i + 1) (by omega) (by omega) (by rw [hs]; exact Qu rfl ⟨rfl, rfl, rfl, by simp only [Int.natCast_add]; rfl, trivial⟩)
  · have hi' : i = o.length := by omega
    rw [hi', List.take_length]
    (refine Qn (Qz (Qw (Qx fun K hK => ?_))); refine Qq rfl rfl rfl ?_; refine Qv rfl rfl rfl ?_; refine Qj (hK _ _ (Qz (Q0 ?_))); clear hK K)
    refine Fin.retF rfl rfl rfl rfl
def posT (out : List Tk) (t : Tk) : Nat := (out.takeWhile fun x => decide (cmpT x t < 0)).length
def insT (out : List Tk) (t : Tk) : List Tk := if posT out t < out.length ∧ out.getD (posT out t) tk0 = t then out else out.take (posT out t) ++ t :: out.drop (posT out t)
def trR (out : List Tk) (l : List Rs) : List Tk := l.foldl (fun out r => if okR r = true then insT out (trOf r) else out) out
theorem posT_le (out : List Tk) (t : Tk) : posT out t ≤ out.length := by
  unfold posT
  exact (List.takeWhile_sublist _).length_le
theorem posT_cons (x : Tk) (out : List Tk) (t : Tk) : posT (x :: out) t = if cmpT x t < 0 then posT out t + 1 else 0 := by
  unfold posT
  rw [List.takeWhile_cons]
  by_cases h : cmpT x t < 0
  · rw [decide_eq_true h, if_pos rfl, if_pos h]; rfl
  · rw [decide_eq_false h, if_neg h]; rfl
theorem insT_len (out : List Tk) (t : Tk) : (insT out t).length ≤ out.length + 1 := by
  have := posT_le out t
  unfold insT
  split
  · omega
  · simp only [List.length_append, List.length_take, List.length_cons, List.length_drop]; omega
theorem tks_drop (l : List Tk) (i : Nat) : (tks l).drop (i * 3) = tks (l.drop i) := el_drop tk_len l i
theorem tks_ones (l : List Tk) : ones (tks l) = true := el_ones (fun _ => rfl) l
theorem tks_spl (l m : List Tk) (i : Nat) : spl (tks l) (i * 3) (tks m) = tks (l.take i ++ m ++ l.drop (i + m.length)) := by
  unfold spl
  rw [tks_take, Z6, ← Nat.add_mul, tks_drop, tks_app, tks_app]
theorem gorTraces : InGo Tryz.prog 39 := InGo.of Tryz.func39 rfl (by decide)
set_option maxHeartbeats 16000000 in
theorem rTraces_ok (l : List Rs) (hl : l.length ≤ 10000) : OkF Tryz.prog 39 [rssC l] 86 3 (tks (trR [] l)) := by
  refine OkF.enter Tryz.func39 rfl _ Tryz.ntmps39 rfl ?_
  intro S w
  (refine Qw (Qx fun K hK => ?_); refine Qv rfl rfl rfl ?_; refine Qj (hK _ _ (Qz (Qw ?_))); clear hK K; refine Qx (fun K hK => ?_); refine Qv rfl rfl rfl ?_; refine Qj (hK _ _ (Qz (Qw (Qw ?_)))); clear hK K; refine Qx (fun K hK => ?_); refine Qv rfl rfl rfl ?_; refine Qj (hK _ _ (Qz (Q4 ?_))); clear hK K)
  refine Xf 3 0 86 3 rfl rfl rfl ?_
  refine Xz (α := Nat × List Tk) (fun x => x.1 ≤ l.length ∧ trR x.2 (l.drop x.1) = trR [] l ∧ x.2.length ≤ x.1)
    (fun x => [(0, .ct (rssC l)), (3, .own 0), (4, .ct (intC x.1))]) (fun x => [(0, .row 86 3 (tks x.2))]) (fun x => l.length - x.1) (0, []) ⟨Nat.zero_le _, rfl, Nat.le_refl _⟩ (by exact Qu rfl ⟨rfl, rfl, rfl, trivial⟩) ?_
  rintro ⟨i, out⟩ ⟨hi, hs, hol⟩
  dsimp only at hi hs hol ⊢
  (refine Qw (Qw (Qx fun K hK => ?_)); refine Qq rfl rfl rfl ?_; refine Qq rfl rfl rfl ?_; refine Qd rfl rfl (by with_reducible exact sRes.und) (List.length_map ..) rfl ?_; refine Qk ilss rfl rfl rfl rfl ?_; refine Qj (hK _ _ (Qz ?_)); clear hK K)
  refine Q2 rfl (fun h => ?_) (fun h => ?_)
  rotate_left
  · have hi' : i = l.length := by omega
    rw [hi', List.drop_length] at hs
    (refine Qn (Qz (Qw (Qx fun K hK => ?_))); refine Qq rfl rfl rfl ?_; refine Qv rfl rfl rfl ?_; refine Qj (hK _ _ (Qz (Q0 ?_))); clear hK K)
    refine Fin.retF rfl rfl (by rw [← hs]; rfl) rfl
  have e2 : (i : Int).toNat = i := Int.toNat_natCast i
  rw [dropA (z := rs0) (l := l) (i := i) (by omega)] at hs
  (refine Q1 (Qz (Qw (Q4 (Qw (Qw (Qx fun K hK => ?_)))))); refine Qq rfl rfl rfl ?_; refine Qq rfl rfl rfl ?_; refine Qg rfl rfl rfl (by with_reducible exact sRes) (by omega) (Xa (by omega) (by omega)) rfl ?_; refine XZ (n := 17) rfl rfl rfl (by with_reducible exact lRes) rfl rfl ?_)
  rw [e2]
  generalize hc : l.getD i rs0 = c at hs
  refine QW gorValidR (rValidR_ok c) rfl rfl rfl rfl ?_
  (refine Qp rfl rfl rfl ?_; refine Qj (hK _ _ (Qz ?_)); clear hK K)
  refine XX rfl (fun h2 => ?_) (fun h2 => ?_)
  · have h2 : okR c = false := by simpa using h2
    rw [show trR out (c :: l.drop (i + 1)) = trR (if okR c = true then insT out (trOf c) else out) (l.drop (i + 1)) from rfl, if_neg (by rw [h2]; decide)] at hs
    (refine Qn (Qz (Qx fun K hK => ?_)); refine Qq rfl rfl rfl ?_; refine Qk (iadd (by omega) (by omega)) rfl rfl rfl rfl ?_; refine Qv rfl rfl rfl ?_; refine Qj (hK _ _ (Q3 ?_)); clear hK K)
    refine Q7 (i + 1, out) (by dsimp only; omega) ⟨by dsimp only; omega, hs, by dsimp only; omega⟩ (by exact Qu rfl ⟨rfl, rfl, by simp only [Int.natCast_add]; rfl, trivial⟩)
  have h2 : okR c = true := by simpa using h2
  rw [show trR out (c :: l.drop (i + 1)) = trR (if okR c = true then insT out (trOf c) else out) (l.drop (i + 1)) from rfl, if_pos h2] at hs
  have hT := rTraceOf_ok c
  generalize trOf c = t at hs hT
  (refine Q1 (Qz (Qw (Qx fun K hK => ?_))); refine Qq rfl rfl rfl ?_; refine Qq rfl rfl rfl ?_; refine Qg rfl rfl rfl (by with_reducible exact sRes) (by omega) (Xa (by omega) (by omega)) rfl ?_; refine XZ (n := 17) rfl rfl rfl (by with_reducible exact lRes) rfl rfl ?_)
  rw [e2, hc]
  refine QW gorTraceOf hT rfl rfl rfl rfl ?_
  refine Qh 1 rfl rfl (by with_reducible exact zvTrace) rfl rfl rfl ?_
  refine Qe 3 rfl rfl rfl rfl rfl (by with_reducible exact szTrace) rfl rfl ?_
  (refine Qj (hK _ _ (Qz (Qw ?_))); clear hK K; refine Qx (fun K hK => ?_); refine Qv rfl rfl rfl ?_; refine Qj (hK _ _ (Qz (Qw (Q4 ?_)))); clear hK K)
  refine Xz (α := Nat) (fun k => k ≤ out.length ∧ posT out t = k + posT (out.drop k) t)
    (fun k => [(0, .ct (rssC l)), (3, .own 0), (4, .ct (intC i)), (5, .own 1), (6, .ct (intC k))]) (fun _ => [(1, .box 86 (tkCs t)), (0, .row 86 3 (tks out))]) (fun k => out.length - k) 0 ⟨Nat.zero_le _, by rw [Nat.zero_add]; rfl⟩ (by exact Qu rfl ⟨rfl, rfl, rfl, rfl, rfl, trivial⟩) ?_
  rintro k ⟨hk, hp⟩
  dsimp only at hk hp ⊢
  have e4 : (k : Int).toNat = k := Int.toNat_natCast k
  (refine Qw (Qw ?_))
  refine ZV (α := Unit) (fun _ => True) (fun _ => [(0, .ct (rssC l)), (3, .own 0), (4, .ct (intC i)), (5, .own 1), (6, .ct (intC k)), (36, .ct (boolC (decide (k < out.length ∧ cmpT (out.getD k tk0) t < 0))))]) (fun _ => [(1, .box 86 (tkCs t)), (0, .row 86 3 (tks out))]) (fun _ _ => ?_) (fun KN hM => ?_)
  rotate_left
  · refine Xu (by with_reducible exact mixed) 13 (.p 0 (.p 1 (.p 2 (.p 3 (.p 4 (.p 5 (.p 6 (.p 7 (.f 8 (.f 9 (.m 10 (.p 11 (.p 12 .done))))))))))))) (by kernel_rfl) (fun K hK => ?_)
    (refine Qq rfl rfl rfl ?_; refine Qq rfl rfl rfl ?_)
    refine Yv out.length rfl rfl rfl (by decide) (Z6 out) (by with_reducible exact sTks.und) rfl ?_
    (refine Qk ilss rfl rfl rfl rfl ?_; refine Qq rfl rfl rfl ?_)
    refine Q5 28 rfl (fun h3 => ?_) (fun h3 => ?_)
    · have heq : decide (k < out.length ∧ cmpT (out.getD k tk0) t < 0) = decide (cmpT (out.getD k tk0) t < 0) := decide_eq_decide.2 ⟨fun h => h.2, fun h => ⟨by omega, h⟩⟩
      rw [heq] at hM
      (refine Qq rfl rfl rfl ?_; refine Qq rfl rfl rfl ?_)
      refine Xi out.length rfl rfl rfl (Z6 out) rfl (by with_reducible exact sTks) (by omega) (by omega) rfl ?_
      refine ldE tkCs tk0 tk_len rfl rfl rfl rfl rfl (by omega) (by with_reducible exact Z4) rfl ?_
      rw [e4]
      (refine Qa (n := 3) rfl rfl rfl rfl rfl (by with_reducible exact Z4) rfl ?_)
      refine QW gorCompareTrace (rCompareTrace_ok _ _) rfl rfl rfl rfl ?_
      (refine Qk ilss rfl rfl rfl rfl ?_; refine QZ rfl rfl rfl rfl ?_; refine Qj (hK _ _ ?_); clear hK K)
      exact Qt hM () trivial (Qu rfl ⟨rfl, rfl, rfl, rfl, rfl, rfl, trivial⟩)
    · rw [decide_eq_false (fun h => h3 (by omega))] at hM
      (refine Qy rfl rfl rfl ?_; refine Qy rfl rfl rfl ?_; refine Qy rfl rfl rfl ?_; refine Qy rfl rfl rfl ?_; refine Qy rfl rfl rfl ?_; refine Qy rfl rfl rfl ?_; refine Qy rfl rfl rfl ?_; refine QK rfl rfl rfl rfl ?_; refine Qj (hK _ _ ?_); clear hK K)
      exact Qt hM () trivial (Qu rfl ⟨rfl, rfl, rfl, rfl, rfl, rfl, trivial⟩)
  refine Q2 rfl (fun h3 => ?_) (fun h3 => ?_)
  · obtain ⟨h3, h4⟩ := h3
    rw [dropA (z := tk0) h3, posT_cons, if_pos h4] at hp
    (refine Q1 (Qz (Q4 (Qx fun K hK => ?_))); refine Qq rfl rfl rfl ?_; refine Qk (iadd (by omega) (by omega)) rfl rfl rfl rfl ?_; refine Qv rfl rfl rfl ?_; refine Qj (hK _ _ (Qb (Q3 ?_))); clear hK K)
    refine Q7 (k + 1) (by omega) ⟨by omega, by omega⟩ (by exact Qu rfl ⟨rfl, rfl, rfl, rfl, by simp only [Int.natCast_add]; rfl, trivial⟩)
  have hpk : posT out t = k := by
    by_cases hkl : k < out.length
    · rw [dropA (z := tk0) hkl, posT_cons, if_neg (fun h => h3 ⟨hkl, h⟩)] at hp; exact hp
    · rw [List.drop_of_length_le (by omega)] at hp; exact hp
  (refine Qn (Qz (Qw (Qw ?_))))
  refine ZV (α := Unit) (fun _ => True) (fun _ => [(0, .ct (rssC l)), (3, .own 0), (4, .ct (intC i)), (5, .own 1), (6, .ct (intC k)), (50, .ct (boolC (decide (k < out.length ∧ out.getD k tk0 = t))))]) (fun _ => [(1, .box 86 (tkCs t)), (0, .row 86 3 (tks out))]) (fun _ _ => ?_) (fun KN hM => ?_)
  rotate_left
  · refine Xu (by with_reducible exact mixed) 12 (.p 0 (.p 1 (.p 2 (.p 3 (.p 4 (.p 5 (.p 6 (.p 7 (.f 8 (.f 9 (.p 10 (.p 11 .done)))))))))))) (by kernel_rfl) (fun K hK => ?_)
    (refine Qq rfl rfl rfl ?_; refine Qq rfl rfl rfl ?_)
    refine Yv out.length rfl rfl rfl (by decide) (Z6 out) (by with_reducible exact sTks.und) rfl ?_
    (refine Qk ilss rfl rfl rfl rfl ?_; refine Qq rfl rfl rfl ?_)
    refine Q5 43 rfl (fun h3 => ?_) (fun h3 => ?_)
    · have heq : decide (k < out.length ∧ out.getD k tk0 = t) = decide (out.getD k tk0 = t) := decide_eq_decide.2 ⟨fun h => h.2, fun h => ⟨by omega, h⟩⟩
      rw [heq] at hM
      (refine Qq rfl rfl rfl ?_; refine Qq rfl rfl rfl ?_)
      refine Xi out.length rfl rfl rfl (Z6 out) rfl (by with_reducible exact sTks) (by omega) (by omega) rfl ?_
      refine ldE tkCs tk0 tk_len rfl rfl rfl rfl rfl (by omega) (by with_reducible exact Z4) rfl ?_
      rw [e4]
      (refine Qa (n := 3) rfl rfl rfl rfl rfl (by with_reducible exact Z4) rfl ?_)
      refine eqTk (out.getD k tk0) t rfl rfl rfl rfl rfl ?_
      (refine QZ rfl rfl rfl rfl ?_; refine Qj (hK _ _ ?_); clear hK K)
      exact Qt hM () trivial (Qu rfl ⟨rfl, rfl, rfl, rfl, rfl, rfl, trivial⟩)
    · rw [decide_eq_false (fun h => h3 (by omega))] at hM
      (refine Qy rfl rfl rfl ?_; refine Qy rfl rfl rfl ?_; refine Qy rfl rfl rfl ?_; refine Qy rfl rfl rfl ?_; refine Qy rfl rfl rfl ?_; refine Qy rfl rfl rfl ?_; refine QK rfl rfl rfl rfl ?_; refine Qj (hK _ _ ?_); clear hK K)
      exact Qt hM () trivial (Qu rfl ⟨rfl, rfl, rfl, rfl, rfl, rfl, trivial⟩)
  refine Q2 rfl (fun h4 => ?_) (fun h4 => ?_)
  · rw [show insT out t = out from by unfold insT; rw [hpk, if_pos h4]] at hs
    (refine Qn (Qz (Qx fun K hK => ?_)); refine Qq rfl rfl rfl ?_; refine Qk (iadd (by omega) (by omega)) rfl rfl rfl rfl ?_; refine Qv rfl rfl rfl ?_; refine Qj (hK _ _ (Q3 ?_)); clear hK K)
    refine Qm 1 ?_
    refine Q7 (i + 1, out) (by dsimp only; omega) ⟨by dsimp only; omega, hs, by dsimp only; omega⟩ (by exact Qu rfl ⟨rfl, rfl, by simp only [Int.natCast_add]; rfl, trivial⟩)
  rw [show insT out t = out.take k ++ t :: out.drop k from by unfold insT; rw [hpk, if_neg h4]] at hs
  have e3 : ((k : Int) + 1).toNat = k + 1 := by omega
  generalize hl2' : (out ++ [t]).take (k + 1) ++ ((out ++ [t]).drop k).take (out.length + 1 - (k + 1)) ++ (out ++ [t]).drop (k + 1 + (((out ++ [t]).drop k).take (out.length + 1 - (k + 1))).length) = l2
  have hl3 : l2.set k t = out.take k ++ t :: out.drop k := by rw [← hl2']; exact shift_eqA out t hk
  have hlen2 : k < l2.length := by
    have := congrArg List.length hl3
    simp at this
    omega
  have hlen3 : l2.length = out.length + 1 := by
    have := congrArg List.length hl3
    simp at this
    omega
  have hl2 : tks l2 = spl (tks (out ++ [t])) (((k : Int) + 1).toNat * 3) (((tks (out ++ [t])).drop ((k : Int).toNat * 3)).take (min (out.length + 1 - (k : Int).toNat) (out.length + 1 - ((k : Int) + 1).toNat) * 3)) := by
    rw [e3, e4, show min (out.length + 1 - k) (out.length + 1 - (k + 1)) = out.length + 1 - (k + 1) by omega, tks_drop, tks_take, tks_spl, ← hl2']
  (refine Q1 (Qz (Qw (Qx fun K hK => ?_))); refine Qq rfl rfl rfl ?_; refine Qa (n := 3) rfl rfl rfl rfl rfl (by with_reducible exact Z4) rfl ?_)
  refine X6 (n := 3) rfl rfl (by with_reducible exact sTks) rfl rfl (by decide) rfl ?_
  refine Qs out.length (tks (out ++ [t])) rfl rfl rfl rfl (by with_reducible exact sTks) (Z6 out) rfl (by omega) (by omega) (tks_snoc out t) rfl ?_
  (refine Qv rfl rfl rfl ?_; refine Qj (hK _ _ (Qz (Qw ?_))); clear hK K)
  refine Xu (by with_reducible exact mixed) 7 (.p 0 (.p 1 (.p 2 (.p 4 (.p 5 (.p 3 (.p 6 (.a 7 .done)))))))) (by kernel_rfl) (fun K hK => ?_)
  (refine Qq rfl rfl rfl ?_; refine Qq rfl rfl rfl ?_; refine Qk (iadd (by omega) (by omega)) rfl rfl rfl rfl ?_; refine Qq rfl rfl rfl ?_; refine Qq rfl rfl rfl ?_)
  refine Ops.copyIn (out.length + 1) (tks l2) rfl rfl rfl rfl rfl (by with_reducible exact sTks) (by rw [Z6]; simp) (by omega) (by omega) (by omega) (by omega) (by omega) (tks_ones _) rfl hl2 rfl rfl rfl ?_
  (refine Qj (hK _ _ (Qz ?_)); clear hK K; refine Qx (fun K hK => ?_); refine Qq rfl rfl rfl ?_; refine Qq rfl rfl rfl ?_; refine Qa (n := 3) rfl rfl rfl rfl rfl (by with_reducible exact Z4) rfl ?_)
  refine Xi (out.length + 1) rfl rfl rfl (by rw [Z6, hlen3]) rfl (by with_reducible exact sTks) (by omega) (by omega) rfl ?_
  refine stE tkCs t tk_len rfl rfl rfl rfl rfl (by rw [e4]; omega) (by with_reducible exact szTrace) ?_
  rw [e4, hl3]
  (refine Qj (hK _ _ (Qz ?_)); clear hK K; refine Qx (fun K hK => ?_); refine Qq rfl rfl rfl ?_; refine Qk (iadd (by omega) (by omega)) rfl rfl rfl rfl ?_; refine Qv rfl rfl rfl ?_; refine Qj (hK _ _ (Q3 ?_)); clear hK K)
  refine Qm 1 ?_
  refine Q7 (i + 1, out.take k ++ t :: out.drop k) (by dsimp only; omega) ⟨by dsimp only; omega, hs, by simp only [List.length_append, List.length_take, List.length_cons, List.length_drop]; omega⟩ (by exact Qu rfl ⟨rfl, rfl, by simp only [Int.natCast_add]; rfl, trivial⟩)
theorem trR_len : ∀ (l : List Rs) (out : List Tk), (trR out l).length ≤ out.length + l.length
  | [], out => by simp [trR]
  | r :: l, out => by
    have h1 := trR_len l (if okR r = true then insT out (trOf r) else out)
    have h2 := insT_len out (trOf r)
    show (trR (if okR r = true then insT out (trOf r) else out) l).length ≤ _
    rw [List.length_cons]
    by_cases h : okR r = true
    · rw [if_pos h] at h1 ⊢; omega
    · rw [if_neg h] at h1 ⊢; omega
theorem ofF_up (l : List Rs) (t : Tk) : Up cmpR (ofF l t) := List.Pairwise.sublist List.filter_sublist (Yw ordR (l.filter okR)).1
theorem ofF_mem {l : List Rs} {t : Tk} {r : Rs} (h : r ∈ ofF l t) : okR r = true ∧ trOf r = t := by
  obtain ⟨h1, h2⟩ := List.mem_filter.1 h
  exact ⟨(List.mem_filter.1 (((Yw ordR (l.filter okR)).2 r).1 h1)).2, of_decide_eq_true h2⟩
theorem ofF_len (l : List Rs) (t : Tk) : (ofF l t).length ≤ l.length := by
  have h1 := sd_len cmpR (l.filter okR)
  have h2 := List.length_filter_le okR l
  have h3 := List.length_filter_le (fun x => decide (trOf x = t)) (sd cmpR (l.filter okR))
  unfold ofF; omega
structure OneL (st : Bool) (most : Int) (l : List Rs) : Prop where
  len : (l.length : Int) ≤ most
  ok : ∀ r ∈ l, okR r = true
  tr : ∃ t, ∀ r ∈ l, trOf r = t
  up : Up cmpR l
  pw : st = true → pwB l = true
theorem goOne : InGo Tryz.prog 13 := InGo.of Tryz.func13 rfl (by decide)
set_option maxHeartbeats 8000000 in
theorem One_ok (bs : List Int) (p : Nat) (most : Int) (st : Bool) (h0 : 0 ≤ most) (h1 : most ≤ 100) (hb : Bytes bs) : OkB Tryz.prog 13 78 (codes bs p) [intC most, boolC st] (fun q : List Rs × Nat => OneL st most q.1) (fun q => rssC q.1) (fun q => codes bs q.2) := by
  have hnil : pwB [] = true := decide_eq_true fun k h => absurd h (Nat.not_lt_zero _)
  refine OkB.enter Tryz.func13 rfl _ Tryz.ntmps13 rfl ?_
  intro S w g
  (refine Qw (Qx fun K hK => ?_); refine Qv rfl rfl rfl ?_; refine Qj (hK _ _ (Qz (Qw ?_))); clear hK K; refine Qx (fun K hK => ?_); refine Qq rfl rfl rfl ?_; refine Qq rfl rfl rfl ?_; refine Qq rfl rfl rfl ?_)
  refine Xw goResults (Results_ok bs p most st h0 h1 hb) rfl rfl rfl rfl rfl (fun q hq => ?_)
  obtain ⟨l, p1⟩ := q
  dsimp only at hq ⊢
  have hT := rTraces_ok l (by omega)
  have htl := trR_len l []
  rw [List.length_nil, Nat.zero_add] at htl
  generalize trR [] l = ts at hT htl
  (refine Qv rfl rfl rfl ?_; refine Qj (hK _ _ (Qz (Qw ?_))); clear hK K; refine Qx (fun K hK => ?_); refine Qq rfl rfl rfl ?_)
  refine Z2 4 gorTraces hT rfl rfl rfl rfl rfl rfl ?_
  refine Ops.frz 4 _ rfl (tks_frozen _ _) (Ze rfl) ?_
  (refine Qv rfl rfl rfl ?_; refine Qj (hK _ _ (Qz (Qw (Qw ?_)))); clear hK K; refine Qx (fun K hK => ?_); refine Qq rfl rfl rfl ?_)
  refine Qd rfl rfl (by with_reducible exact sTks.und) (List.length_map ..) rfl ?_
  (refine Qk ieql rfl rfl rfl rfl ?_; refine Qj (hK _ _ (Qz ?_)); clear hK K)
  refine Q2 rfl (fun h => ?_) (fun h => ?_)
  · (refine Qw (Qx fun K hK => ?_); refine Qv rfl rfl rfl ?_; refine Qj (hK _ _ (Qz (Q0 (QY ?_)))); clear hK K)
    refine Zf ([], p1) [_] rfl (X4 Z9 (QQ rfl QX)) rfl rfl ⟨h0, fun r h => (by cases h), ⟨tk0, fun r h => (by cases h)⟩, List.Pairwise.nil, fun _ => hnil⟩
  (refine Q1 (Qz (Qw (Qx fun K hK => ?_))); refine Qq rfl rfl rfl ?_; refine Qq rfl rfl rfl ?_; refine Qq rfl rfl rfl ?_; refine Qq rfl rfl rfl ?_)
  refine Qd rfl rfl (by with_reducible exact sTks.und) (List.length_map ..) rfl ?_
  refine Xw goNext (Next_ok bs p1 ts.length (by omega) (by omega) hb) rfl rfl rfl rfl rfl (fun q hq2 => ?_)
  obtain ⟨k, p2⟩ := q
  dsimp only at hq2 ⊢
  refine Qg rfl rfl rfl (by with_reducible exact sTks) (by omega) (tks_at (by omega) (by omega)) rfl ?_
  generalize ts.getD k.toNat tk0 = t
  refine XZ (n := 3) rfl rfl rfl (by with_reducible exact Z4) rfl rfl ?_
  refine Z2 4 gorOf (rOf_ok l t (by omega)) rfl rfl rfl rfl rfl rfl ?_
  refine Ops.frz 4 _ rfl (Zz _ _) (Ze rfl) ?_
  have hx1 := ofF_up l t
  have hx2 := fun r => @ofF_mem l t r
  have hx3 := ofF_len l t
  generalize ofF l t = x at hx1 hx2 hx3
  (refine Qv rfl rfl rfl ?_; refine Qj (hK _ _ (Qz (Qw (Qw ?_)))); clear hK K; refine Qx (fun K hK => ?_); refine Qq rfl rfl rfl ?_; refine Qp rfl rfl rfl ?_; refine Qj (hK _ _ (Qz ?_)); clear hK K)
  refine XX rfl (fun h2 => ?_) (fun h2 => ?_)
  · (refine Qw (Qx fun K hK => ?_); refine Qq rfl rfl rfl ?_; refine Qv rfl rfl rfl ?_; refine Qj (hK _ _ (Qz (Q0 (QY ?_)))); clear hK K)
    refine Zf (x, p2) [_] rfl (QQ rfl QX) rfl rfl ⟨by dsimp only; omega, fun r h => (hx2 r h).1, ⟨t, fun r h => (hx2 r h).2⟩, hx1, fun h => by rw [h] at h2; cases h2⟩
  (refine Q1 (Qz (Qw (Qx fun K hK => ?_))); refine Qv rfl rfl rfl ?_; refine Qj (hK _ _ (Qz (Qw (Qw ?_)))); clear hK K; refine Qx (fun K hK => ?_); refine Qv rfl rfl rfl ?_; refine Qj (hK _ _ (Qz (Q4 ?_))); clear hK K)
  refine Xf 10 2 35 17 rfl rfl rfl ?_
  refine Xz (α := Nat × List Rs) (fun q => q.1 ≤ x.length ∧ q.2.Sublist (x.take q.1) ∧ (q.2 ≠ [] → pwB q.2 = true))
    (fun q => [(0, .own 0), (9, .ct (rssC x)), (10, .own 2), (11, .ct (intC q.1))]) (fun q => [(2, .row 35 17 (rss q.2)), (0, .box 78 (codes bs p2))])
    (fun q => x.length - q.1) (0, []) ⟨Nat.zero_le _, List.nil_sublist _, fun h => absurd rfl h⟩ (by exact Qu rfl ⟨rfl, rfl, rfl, rfl, trivial⟩) ?_
  intro ⟨i, out⟩ ⟨hi, hsub, hco⟩
  try dsimp only at hi hsub hco ⊢
  (refine Qw (Qw (Qx fun K hK => ?_)); refine Qq rfl rfl rfl ?_; refine Qq rfl rfl rfl ?_; refine Qd rfl rfl (by with_reducible first | exact sAdrs.und | exact sPths.und | exact sRes.und) (List.length_map ..) rfl ?_; refine Qk ilss rfl rfl rfl rfl ?_; refine Qj (hK _ _ (Qz ?_)); clear hK K)
  refine Q2 rfl (fun h => ?_) (fun h => ?_)
  · have e2 : (i : Int).toNat = i := Int.toNat_natCast i
    have hsn := take_snoc (z := rs0) (l := x) (i := i) (by omega)
    have hol := hsub.length_le
    rw [List.length_take] at hol
    generalize hc : x.getD i rs0 = c at hsn
    (refine Q1 (Qz (Qw (Q4 (Qw ?_)))))
    refine St.drawQ (by with_reducible exact mixed) [1, 7] (.p 0 (.p 2 (.p 3 (.p 4 (.a 1 (.f 5 (.m 6 (.a 7 (.m 8 .done .non) .non) .non)) (.m 5 (.a 1 (.m 6 (.a 7 (.m 8 .done .non) .non) .non) (.m 6 (.a 1 (.a 7 (.m 8 .done .non) .non) .non) .non)) .non)))))) (by kernel_rfl) (fun K hK => ?_)
    refine YZ ?_
    refine Qq rfl rfl rfl ?_
    refine Qj ?_
    refine YZ ?_
    refine Qq rfl rfl rfl ?_
    refine Qj ?_
    refine YZ ?_
    refine Qq rfl rfl rfl ?_
    refine Qj ?_
    refine YZ ?_
    refine Qg rfl rfl rfl (by with_reducible exact sRes) (by omega) (Xa (by omega) (by omega)) rfl ?_
    rw [e2, hc]
    refine Qj ?_
    refine XV ?_ ?_
    · refine Ops.appRow 5 out.length rfl rfl rfl rfl (by with_reducible exact sRes) (X1 out) (ones_rss out) (by omega) (by omega) rfl rfl rfl ?_
      refine Qj ?_
      refine Zq ?_
      refine XZ (n := 17) rfl rfl rfl (by with_reducible exact lRes) rfl rfl ?_
      refine Qj ?_
      refine Xs ?_ Qr
      refine X6 (n := 17) rfl rfl (by with_reducible exact sRes) rfl rfl (by decide) rfl ?_
      refine Qj ?_
      refine XV ?_ Qr
      refine Qs out.length (rss (out ++ [c])) rfl rfl rfl rfl (by with_reducible exact sRes) (X1 out) rfl (by omega) (by omega) (ZK out c) rfl ?_
      refine Ops.frz 5 _ rfl (Zz _ _) (Ze rfl) ?_
      refine Qj ?_
      refine Xs ?_ Qr
      refine QW goConsistentR (rConsistent_ok (out ++ [c]) (by rw [List.length_append, List.length_singleton]; omega)) rfl rfl rfl rfl ?_
      refine Qj ?_
      refine XY (hK _ _ ?_)
      (refine Qz ?_)
      refine XX rfl (fun h2 => ?_) (fun h2 => ?_)
      · (refine Qx (fun K hK => ?_); refine Qq rfl rfl rfl ?_; refine Qq rfl rfl rfl ?_; refine Qq rfl rfl rfl ?_)
        refine Qg rfl rfl rfl (by with_reducible exact sRes) (by omega) (Xa (by omega) (by omega)) rfl ?_
        rw [e2, hc]
        refine XZ (n := 17) rfl rfl rfl (by with_reducible exact lRes) rfl rfl ?_
        refine X6 (n := 17) rfl rfl (by with_reducible exact sRes) rfl rfl (by decide) rfl ?_
        refine Qs out.length (rss (out ++ [c])) rfl rfl rfl rfl (by with_reducible exact sRes) (X1 out) rfl (by omega) (by omega) (ZK out c) rfl ?_
        (refine Qv rfl rfl rfl ?_; refine Qj (hK _ _ (Qz ?_)); clear hK K; refine Qx (fun K hK => ?_); refine Qq rfl rfl rfl ?_; refine Qk (iadd (by omega) (by omega)) rfl rfl rfl rfl ?_; refine Qv rfl rfl rfl ?_; refine Qj (hK _ _ (Q3 ?_)); clear hK K)
        refine Q7 (i + 1, out ++ [c]) (by dsimp only; omega) ⟨by dsimp only; omega, by rw [hsn]; exact hsub.append (List.Sublist.refl _), fun _ => h2⟩ (by exact Qu rfl ⟨rfl, rfl, rfl, by simp only [Int.natCast_add]; rfl, trivial⟩)
      · (refine Q1 (Qz (Qx fun K hK => ?_)); refine Qq rfl rfl rfl ?_; refine Qk (iadd (by omega) (by omega)) rfl rfl rfl rfl ?_; refine Qv rfl rfl rfl ?_; refine Qj (hK _ _ (Q3 ?_)); clear hK K)
        refine Q7 (i + 1, out) (by dsimp only; omega) ⟨by dsimp only; omega, by rw [hsn]; exact hsub.trans (List.sublist_append_left _ _), hco⟩ (by exact Qu rfl ⟨rfl, rfl, rfl, by simp only [Int.natCast_add]; rfl, trivial⟩)
    refine Xs ?_ Qr
    refine XZ (n := 17) rfl rfl rfl (by with_reducible exact lRes) rfl rfl ?_
    refine Qj ?_
    refine XV ?_ ?_
    · refine Ops.appRow 5 out.length rfl rfl rfl rfl (by with_reducible exact sRes) (X1 out) (ones_rss out) (by omega) (by omega) rfl rfl rfl ?_
      refine Qj ?_
      refine Xs ?_ Qr
      refine X6 (n := 17) rfl rfl (by with_reducible exact sRes) rfl rfl (by decide) rfl ?_
      refine Qj ?_
      refine XV ?_ Qr
      refine Qs out.length (rss (out ++ [c])) rfl rfl rfl rfl (by with_reducible exact sRes) (X1 out) rfl (by omega) (by omega) (ZK out c) rfl ?_
      refine Ops.frz 5 _ rfl (Zz _ _) (Ze rfl) ?_
      refine Qj ?_
      refine Xs ?_ Qr
      refine QW goConsistentR (rConsistent_ok (out ++ [c]) (by rw [List.length_append, List.length_singleton]; omega)) rfl rfl rfl rfl ?_
      refine Qj ?_
      refine XY (hK _ _ ?_)
      (refine Qz ?_)
      refine XX rfl (fun h2 => ?_) (fun h2 => ?_)
      · (refine Qx (fun K hK => ?_); refine Qq rfl rfl rfl ?_; refine Qq rfl rfl rfl ?_; refine Qq rfl rfl rfl ?_)
        refine Qg rfl rfl rfl (by with_reducible exact sRes) (by omega) (Xa (by omega) (by omega)) rfl ?_
        rw [e2, hc]
        refine XZ (n := 17) rfl rfl rfl (by with_reducible exact lRes) rfl rfl ?_
        refine X6 (n := 17) rfl rfl (by with_reducible exact sRes) rfl rfl (by decide) rfl ?_
        refine Qs out.length (rss (out ++ [c])) rfl rfl rfl rfl (by with_reducible exact sRes) (X1 out) rfl (by omega) (by omega) (ZK out c) rfl ?_
        (refine Qv rfl rfl rfl ?_; refine Qj (hK _ _ (Qz ?_)); clear hK K; refine Qx (fun K hK => ?_); refine Qq rfl rfl rfl ?_; refine Qk (iadd (by omega) (by omega)) rfl rfl rfl rfl ?_; refine Qv rfl rfl rfl ?_; refine Qj (hK _ _ (Q3 ?_)); clear hK K)
        refine Q7 (i + 1, out ++ [c]) (by dsimp only; omega) ⟨by dsimp only; omega, by rw [hsn]; exact hsub.append (List.Sublist.refl _), fun _ => h2⟩ (by exact Qu rfl ⟨rfl, rfl, rfl, by simp only [Int.natCast_add]; rfl, trivial⟩)
      · (refine Q1 (Qz (Qx fun K hK => ?_)); refine Qq rfl rfl rfl ?_; refine Qk (iadd (by omega) (by omega)) rfl rfl rfl rfl ?_; refine Qv rfl rfl rfl ?_; refine Qj (hK _ _ (Q3 ?_)); clear hK K)
        refine Q7 (i + 1, out) (by dsimp only; omega) ⟨by dsimp only; omega, by rw [hsn]; exact hsub.trans (List.sublist_append_left _ _), hco⟩ (by exact Qu rfl ⟨rfl, rfl, rfl, by simp only [Int.natCast_add]; rfl, trivial⟩)
    refine Xs ?_ Qr
    refine X6 (n := 17) rfl rfl (by with_reducible exact sRes) rfl rfl (by decide) rfl ?_
    refine Qj ?_
    refine XV ?_ Qr
    refine Ops.appRow 5 out.length rfl rfl rfl rfl (by with_reducible exact sRes) (X1 out) (ones_rss out) (by omega) (by omega) rfl rfl rfl ?_
    refine Qj ?_
    refine XV ?_ Qr
    refine Qs out.length (rss (out ++ [c])) rfl rfl rfl rfl (by with_reducible exact sRes) (X1 out) rfl (by omega) (by omega) (ZK out c) rfl ?_
    refine Ops.frz 5 _ rfl (Zz _ _) (Ze rfl) ?_
    refine Qj ?_
    refine Xs ?_ Qr
    refine QW goConsistentR (rConsistent_ok (out ++ [c]) (by rw [List.length_append, List.length_singleton]; omega)) rfl rfl rfl rfl ?_
    refine Qj ?_
    refine XY (hK _ _ ?_)
    (refine Qz ?_)
    refine XX rfl (fun h2 => ?_) (fun h2 => ?_)
    · (refine Qx (fun K hK => ?_); refine Qq rfl rfl rfl ?_; refine Qq rfl rfl rfl ?_; refine Qq rfl rfl rfl ?_)
      refine Qg rfl rfl rfl (by with_reducible exact sRes) (by omega) (Xa (by omega) (by omega)) rfl ?_
      rw [e2, hc]
      refine XZ (n := 17) rfl rfl rfl (by with_reducible exact lRes) rfl rfl ?_
      refine X6 (n := 17) rfl rfl (by with_reducible exact sRes) rfl rfl (by decide) rfl ?_
      refine Qs out.length (rss (out ++ [c])) rfl rfl rfl rfl (by with_reducible exact sRes) (X1 out) rfl (by omega) (by omega) (ZK out c) rfl ?_
      (refine Qv rfl rfl rfl ?_; refine Qj (hK _ _ (Qz ?_)); clear hK K; refine Qx (fun K hK => ?_); refine Qq rfl rfl rfl ?_; refine Qk (iadd (by omega) (by omega)) rfl rfl rfl rfl ?_; refine Qv rfl rfl rfl ?_; refine Qj (hK _ _ (Q3 ?_)); clear hK K)
      refine Q7 (i + 1, out ++ [c]) (by dsimp only; omega) ⟨by dsimp only; omega, by rw [hsn]; exact hsub.append (List.Sublist.refl _), fun _ => h2⟩ (by exact Qu rfl ⟨rfl, rfl, rfl, by simp only [Int.natCast_add]; rfl, trivial⟩)
    · (refine Q1 (Qz (Qx fun K hK => ?_)); refine Qq rfl rfl rfl ?_; refine Qk (iadd (by omega) (by omega)) rfl rfl rfl rfl ?_; refine Qv rfl rfl rfl ?_; refine Qj (hK _ _ (Q3 ?_)); clear hK K)
      refine Q7 (i + 1, out) (by dsimp only; omega) ⟨by dsimp only; omega, by rw [hsn]; exact hsub.trans (List.sublist_append_left _ _), hco⟩ (by exact Qu rfl ⟨rfl, rfl, rfl, by simp only [Int.natCast_add]; rfl, trivial⟩)
  · have hi' : i = x.length := by omega
    rw [hi', List.take_length] at hsub
    have hol := hsub.length_le
    (refine Qn (Qz (Qw (Qx fun K hK => ?_))); refine Qq rfl rfl rfl ?_; refine Qv rfl rfl rfl ?_; refine Qj (hK _ _ (Qz (Q0 ?_))); clear hK K)
    refine Fin.frz 2 _ rfl (Zz _ _) (Ze rfl) ?_
    refine Zf (out, p2) [_] rfl (QQ rfl QX) rfl rfl ⟨by dsimp only; omega, fun r h => (hx2 r (hsub.subset h)).1, ⟨t, fun r h => (hx2 r (hsub.subset h)).2⟩, List.Pairwise.sublist hsub hx1, fun _ => ?_⟩
    by_cases ho : out = []
    · subst ho; exact hnil
    · exact hco ho
end Go.Proofs.YtlkdkbdgnjcopaaGreat
namespace Go.Limbs
def trimL : List Int → List Int
  | [] => []
  | x :: xs => match trimL xs with
    | [] => if x = 0 then [] else [x]
    | y :: ys => x :: y :: ys
theorem trim_snoc (ys : List Int) : trimL (ys ++ [0]) = trimL ys := by
  induction ys with
  | nil => simp [trimL]
  | cons y ys ih => simp only [List.cons_append, trimL, ih]
theorem trim_id {ys : List Int} {z : Int} (hz : z ≠ 0) : trimL (ys ++ [z]) = ys ++ [z] := by
  induction ys with
  | nil => simp [trimL, hz]
  | cons y ys ih =>
    simp only [List.cons_append, trimL, ih]
    cases ys <;> rfl
theorem trim_last {ys : List Int} (h : 0 < ys.length) (h0 : ys.getD (ys.length - 1) 0 = 0) : trimL (ys.take (ys.length - 1)) = trimL ys := by
  obtain ⟨zs, z, rfl⟩ : ∃ zs z, ys = zs ++ [z] := ⟨ys.dropLast, ys.getLast (by intro e; subst e; simp at h), (List.dropLast_concat_getLast _).symm⟩; simp at h0; subst h0; rw [trim_snoc]; simp
theorem trim_done {ys : List Int} (h : 0 < ys.length → ys.getD (ys.length - 1) 0 ≠ 0) : trimL ys = ys := by
  rcases Nat.eq_zero_or_pos ys.length with h0 | h0
  · have : ys = [] := List.eq_nil_of_length_eq_zero h0; subst this; rfl
  · obtain ⟨zs, z, rfl⟩ : ∃ zs z, ys = zs ++ [z] := ⟨ys.dropLast, ys.getLast (by intro e; subst e; simp at h0), (List.dropLast_concat_getLast _).symm⟩; have := h h0; simp at this; exact trim_id this
theorem trim_len (xs : List Int) : (trimL xs).length ≤ xs.length := by
  induction xs with
  | nil => simp [trimL]
  | cons x xs ih =>
    simp only [trimL]; split
    · split <;> simp
    · rename_i y ys e; rw [e] at ih; simp at ih ⊢; omega
end Go.Limbs
namespace Go.Proofs.YtlkdkbdgnjcopaaGreat
open Go.Own Go.Limbs
def idxI {α : Type} (p : α → Bool) (xs : List α) : Int := if xs.any p then (xs.findIdx p : Nat) else -1
theorem idxI_hit {α : Type} {p : α → Bool} {xs : List α} {z : α} {i : Nat} (h : i < xs.length) (hp : p (xs.getD i z) = true) (hn : ∀ j, j < i → p (xs.getD j z) = false) : idxI p xs = i := by
  have e : ∀ j (hj : j < xs.length), xs.getD j z = xs[j] := fun j hj => by simp [List.getD_eq_getElem?_getD, List.getElem?_eq_getElem hj]
  unfold idxI
  rw [if_pos (List.any_eq_true.mpr ⟨xs[i], List.getElem_mem h, by rw [← e i h]; exact hp⟩)]
  congr 1
  rw [List.findIdx_eq h]
  exact ⟨by rw [← e i h]; exact hp, fun j hj => by rw [← e j (by omega)]; exact hn j hj⟩
theorem idxI_miss {α : Type} {p : α → Bool} {xs : List α} {z : α} (hn : ∀ j, j < xs.length → p (xs.getD j z) = false) : idxI p xs = -1 := by
  have e : ∀ j (hj : j < xs.length), xs.getD j z = xs[j] := fun j hj => by simp [List.getD_eq_getElem?_getD, List.getElem?_eq_getElem hj]
  unfold idxI
  rw [if_neg]
  rw [Bool.not_eq_true, List.any_eq_false]
  intro x hx
  obtain ⟨j, hj, rfl⟩ := List.getElem_of_mem hx
  rw [← e j hj, hn j hj]; decide
theorem idxI_any {α : Type} (p : α → Bool) (xs : List α) : decide (0 ≤ idxI p xs) = xs.any p := by
  unfold idxI; split
  · rename_i h; rw [h]; simp
  · rename_i h; simp at h; rw [show decide ((0 : Int) ≤ -1) = false by decide]; symm; rw [List.any_eq_false]; simpa using h
theorem getD_mem {α : Type} {xs : List α} {z : α} {i : Nat} (h : i < xs.length) : xs.getD i z ∈ xs := by
  simp [List.getD_eq_getElem?_getD, List.getElem?_eq_getElem h]
attribute [local irreducible] Go.Own.Fin Ok OkB OkF OkL OkM OkN OkT Ops St
set_option maxHeartbeats 2000000 in
theorem IndexFunc_res (xs : List Rs) (f : FuncId) (p : Rs → Bool) (hgo : InGo Tryz.prog f) (hf : ∀ x ∈ xs, Ok Tryz.prog f [rsC x] (boolC (p x))) (hl : xs.length < 4611686018427387904) : Ok Tryz.prog 113 [rssC xs, (.ex (.func (.func f) #[] #[]))] (intC (idxI p xs)) := by
  refine Ok.enter Tryz.func113 rfl _ Tryz.ntmps113 rfl ?_
  intro S w
  (refine Qw (Qx fun K hK => ?_); refine Qv rfl rfl rfl ?_; refine Qj (hK _ _ (Qz (Qw (Qw ?_)))); clear hK K; refine Qx (fun K hK => ?_); refine Qq rfl rfl rfl ?_; refine Qd rfl rfl (by with_reducible exact sRes.und) (List.length_map ..) rfl ?_; refine Qq rfl rfl rfl ?_; refine Qj (hK _ _ (Qz (Q4 ?_))); clear hK K)
  refine Xz (α := Nat) (fun i => i ≤ xs.length ∧ ∀ j, j < i → p (xs.getD j rs0) = false)
    (fun i => [(0, .ct (rssC xs)), (1, .ct (.ex (.func (.func f) #[] #[]))), (7, .ct (intC xs.length)), (8, .ct (intC i))]) (fun _ => []) (fun i => xs.length - i) 0 ⟨Nat.zero_le _, fun j h => absurd h (Nat.not_lt_zero j)⟩ (by exact Qu rfl ⟨rfl, rfl, rfl, rfl, trivial⟩) ?_
  intro i ⟨hi, hv⟩
  dsimp only
  (refine Qw (Qx fun K hK => ?_); refine Qk ilss rfl rfl rfl rfl ?_; refine Qj (hK _ _ (Qz (Qw ?_))); clear hK K)
  refine Q2 rfl (fun h => ?_) (fun h => ?_)
  · have e2 : (i : Int).toNat = i := Int.toNat_natCast i
    (refine Q1 (Qz (Qw (Q4 (Qw (Qx fun K hK => ?_))))); refine Qq rfl rfl rfl ?_; refine Qv rfl rfl rfl ?_; refine Qj (hK _ _ (Qz (Qw ?_))); clear hK K; refine Qx (fun K hK => ?_); refine Qq rfl rfl rfl ?_; refine Qq rfl rfl rfl ?_; refine Qq rfl rfl rfl ?_; refine Qg rfl rfl rfl (by with_reducible exact sRes) (by omega) (Xa (by omega) (by omega)) rfl ?_; refine XZ (n := 17) rfl rfl rfl (by with_reducible exact lRes) rfl rfl ?_)
    try rw [e2]
    skip
    refine Ops.callF hgo rfl (hf _ (getD_mem (by omega))) rfl rfl rfl rfl ?_
    (refine Qj (hK _ _ (Qz ?_)); clear hK K)
    refine XX rfl (fun h2 => ?_) (fun h2 => ?_)
    · (refine Qw (Qx fun K hK => ?_); refine Qq rfl rfl rfl ?_; refine Qv rfl rfl rfl ?_; refine Qj (hK _ _ (Qz (Q0 (Q8 (QY (QY (Q8 (QY ?_)))))))); clear hK K)
      refine QU [_] rfl (QQ rfl QX) (by rw [idxI_hit (by omega) h2 hv]; rfl) rfl
    · (refine Q1 (Qz (Qx fun K hK => ?_)); refine Qk (iadd (by omega) (by omega)) rfl rfl rfl rfl ?_; refine Qq rfl rfl rfl ?_; refine Qj (hK _ _ (Q3 ?_)); clear hK K)
      refine Q7 (i + 1) (by omega) ⟨by omega, ?_⟩ (by exact Qu rfl ⟨rfl, rfl, rfl, by simp only [Int.natCast_add]; rfl, trivial⟩)
      intro j hj
      rcases Nat.lt_or_ge j i with h3 | h3
      · exact hv j h3
      · have : j = i := by omega
        rw [this]; exact h2
  · have hi' : i = xs.length := by omega
    (refine Qn (Qz (Qw (Qx fun K hK => ?_))); refine Qv rfl rfl rfl ?_; refine Qj (hK _ _ (Qz (Q0 ?_))); clear hK K)
    refine QU [_] rfl (QQ rfl QX) (by rw [idxI_miss (fun j hj => hv j (by omega))]; rfl) rfl
theorem goIndexFunc_res : InGo Tryz.prog 113 := InGo.of Tryz.func113 (by kernel_rfl) (by kernel_rfl)
theorem ContainsFunc_res (xs : List Rs) (f : FuncId) (p : Rs → Bool) (hgo : InGo Tryz.prog f) (hf : ∀ x ∈ xs, Ok Tryz.prog f [rsC x] (boolC (p x))) (hl : xs.length < 4611686018427387904) : Ok Tryz.prog 71 [rssC xs, (.ex (.func (.func f) #[] #[]))] (boolC (xs.any p)) := by
  refine Ok.enter Tryz.func71 rfl _ Tryz.ntmps71 rfl ?_
  intro S w
  (refine Qw (Qx fun K hK => ?_); refine Qv rfl rfl rfl ?_; refine Qj (hK _ _ (Qz (Qw ?_))); clear hK K; refine Qx (fun K hK => ?_); refine Qq rfl rfl rfl ?_; refine Qq rfl rfl rfl ?_)
  refine QW goIndexFunc_res (IndexFunc_res xs f p hgo hf hl) rfl rfl rfl rfl ?_
  (refine Qk igeq rfl rfl rfl rfl ?_; refine Qv rfl rfl rfl ?_; refine Qj (hK _ _ (Qz (Q0 ?_))); clear hK K)
  refine QU [_] rfl (QQ rfl QX) (by rw [← idxI_any]; rfl) rfl
theorem goContainsFunc_res : InGo Tryz.prog 71 := InGo.of Tryz.func71 (by kernel_rfl) (by kernel_rfl)
theorem gocheck1 : InGo Tryz.prog 85 := InGo.of Tryz.func85 rfl (by decide)
theorem check1_ok (r : Rs) : Ok Tryz.prog 85 [rsC r] (boolC (!okR r)) := by
  refine Ok.enter Tryz.func85 rfl _ Tryz.ntmps85 rfl ?_
  intro S w
  (refine Qw (Qx fun K hK => ?_); refine Xk 0 rfl rfl rfl rfl rfl rfl rfl ?_; refine Qv rfl rfl rfl ?_; refine Qj (hK _ _ (Qz (Qw ?_))); clear hK K; refine Qx (fun K hK => ?_); refine Qa (n := 17) rfl rfl rfl rfl rfl (by with_reducible exact lRes) rfl ?_)
  refine QW goValidR (ValidR_ok r) rfl rfl rfl rfl ?_
  (refine Qp rfl rfl rfl ?_; refine Qv rfl rfl rfl ?_; refine Qj (hK _ _ (Qz (Q0 ?_))); clear hK K)
  refine QU [_] rfl (QQ rfl QX) rfl rfl
set_option maxHeartbeats 4000000 in
theorem Index_wr (xs : List Wr) (q : Wr) (hl : xs.length < 4611686018427387904) : Ok Tryz.prog 109 [wrsC xs, wrC q] (intC (idxI (fun x => decide (q = x)) xs)) := by
  refine Ok.enter Tryz.func109 rfl _ Tryz.ntmps109 rfl ?_
  intro S w
  refine Qw ?_
  refine Qx (fun K hK => ?_)
  refine Xk 0 rfl rfl rfl rfl rfl rfl rfl ?_
  (refine Qv rfl rfl rfl ?_; refine Qj (hK _ _ (Qz (Qw (Qw ?_)))); clear hK K; refine Qx (fun K hK => ?_); refine Qq rfl rfl rfl ?_; refine Qd rfl rfl (by with_reducible first | exact sTks.und | exact sWrs.und | exact sIks.und | exact sAdrs.und) (List.length_map ..) rfl ?_; refine Qq rfl rfl rfl ?_; refine Qj (hK _ _ (Qz (Q4 ?_))); clear hK K)
  refine Xz (α := Nat) (fun i => i ≤ xs.length ∧ ∀ j, j < i → decide (q = xs.getD j wr0) = false)
    (fun i => [(0, .ct (wrsC xs)), (3, .own 0), (7, .ct (intC xs.length)), (8, .ct (intC i))]) (fun _ => [(0, .box 37 (wrCs q))]) (fun i => xs.length - i) 0 ⟨Nat.zero_le _, fun j h => absurd h (Nat.not_lt_zero j)⟩ (by exact Qu rfl ⟨rfl, rfl, rfl, rfl, trivial⟩) ?_
  intro i ⟨hi, hv⟩
  dsimp only
  (refine Qw (Qx fun K hK => ?_); refine Qk ilss rfl rfl rfl rfl ?_; refine Qj (hK _ _ (Qz (Qw ?_))); clear hK K)
  refine Q2 rfl (fun h => ?_) (fun h => ?_)
  · have e2 : (i : Int).toNat = i := Int.toNat_natCast i
    (refine Q1 (Qz (Qw (Q4 (Qw (Qx fun K hK => ?_))))); refine Qq rfl rfl rfl ?_; refine Qv rfl rfl rfl ?_; refine Qj (hK _ _ (Qz (Qw ?_))); clear hK K)
    refine ZV (α := Unit) (fun _ => True) (fun _ => [(0, .ct (wrsC xs)), (3, .own 0), (5, .ct (intC i)), (7, .ct (intC xs.length)), (8, .ct (intC i)), (16, .ct (boolC (decide (q = xs.getD i wr0))))]) (fun _ => [(0, .box 37 (wrCs q))]) (fun _ _ => ?_) (fun KN hM => ?_)
    rotate_left
    · refine Xu (by with_reducible exact mixed) 6 (.p 1 (.p 2 (.p 3 (.f 0 (.f 4 (.p 5 .done)))))) (by kernel_rfl) (fun K hK => ?_)
      (refine Qq rfl rfl rfl ?_; refine Qq rfl rfl rfl ?_)
      refine Qg rfl rfl rfl (by with_reducible exact sWrs) (by omega) (wrs_at (by omega) (by omega)) rfl ?_
      rw [e2]
      (refine Qa (n := 2) rfl rfl rfl rfl rfl (by with_reducible first | exact lTrav | exact lWire | exact lCs) rfl ?_)
      refine XZ (n := 2) rfl rfl rfl (by with_reducible exact lWire) rfl rfl ?_
      refine eqWr q (xs.getD i wr0) rfl rfl rfl rfl rfl ?_
      (refine Qj (hK _ _ ?_); clear hK K)
      exact Qt hM () trivial (Qu rfl ⟨rfl, rfl, rfl, rfl, rfl, rfl, trivial⟩)
    skip
    refine XX rfl (fun h2 => ?_) (fun h2 => ?_)
    · (refine Qw (Qx fun K hK => ?_); refine Qq rfl rfl rfl ?_; refine Qv rfl rfl rfl ?_; refine Qj (hK _ _ (Qz (Q0 (Q8 (QY (QY (Q8 (QY ?_)))))))); clear hK K)
      refine QU [_] rfl (QQ rfl QX) (by rw [idxI_hit (p := fun x => decide (q = x)) (by omega) h2 hv]; rfl) rfl
    · (refine Q1 (Qz (Qx fun K hK => ?_)); refine Qk (iadd (by omega) (by omega)) rfl rfl rfl rfl ?_; refine Qq rfl rfl rfl ?_; refine Qj (hK _ _ (Q3 ?_)); clear hK K)
      refine Q7 (i + 1) (by omega) ⟨by omega, ?_⟩ (by exact Qu rfl ⟨rfl, rfl, rfl, by simp only [Int.natCast_add]; rfl, trivial⟩)
      intro j hj
      rcases Nat.lt_or_ge j i with h3 | h3
      · exact hv j h3
      · have : j = i := by omega
        rw [this]; exact h2
  · have hi' : i = xs.length := by omega
    (refine Qn (Qz (Qw (Qx fun K hK => ?_))); refine Qv rfl rfl rfl ?_; refine Qj (hK _ _ (Qz (Q0 ?_))); clear hK K)
    refine QU [_] rfl (QQ rfl QX) (by rw [idxI_miss (p := fun x => decide (q = x)) (z := wr0) (fun j hj => hv j (by omega))]; rfl) rfl
theorem goIndex_wr : InGo Tryz.prog 109 := InGo.of Tryz.func109 (by kernel_rfl) (by kernel_rfl)
theorem Contains_wr (xs : List Wr) (q : Wr) (hl : xs.length < 4611686018427387904) : Ok Tryz.prog 63 [wrsC xs, wrC q] (boolC (decide (q ∈ xs))) := by
  have e : decide (q ∈ xs) = decide (0 ≤ idxI (fun x => decide (q = x)) xs) := by
    rw [idxI_any, Bool.eq_iff_iff, decide_eq_true_eq, List.any_eq_true]
    exact ⟨fun h => ⟨q, h, decide_eq_true rfl⟩, fun ⟨x, h1, h2⟩ => (of_decide_eq_true h2) ▸ h1⟩
  rw [e]
  refine Ok.enter Tryz.func63 rfl _ Tryz.ntmps63 rfl ?_
  intro S w
  refine Qw ?_
  refine Qx (fun K hK => ?_)
  refine Xk 0 rfl rfl rfl rfl rfl rfl rfl ?_
  (refine Qv rfl rfl rfl ?_; refine Qj (hK _ _ (Qz (Qw ?_))); clear hK K; refine Qx (fun K hK => ?_); refine Qq rfl rfl rfl ?_; refine Qa (n := 2) rfl rfl rfl rfl rfl (by with_reducible first | exact lTrav | exact lWire | exact lCs) rfl ?_)
  refine QW goIndex_wr (Index_wr xs q hl) rfl rfl rfl rfl ?_
  (refine Qk igeq rfl rfl rfl rfl ?_; refine Qv rfl rfl rfl ?_; refine Qj (hK _ _ (Qz (Q0 ?_))); clear hK K)
  refine QU [_] rfl (QQ rfl QX) rfl rfl
theorem goContains_wr : InGo Tryz.prog 63 := InGo.of Tryz.func63 (by kernel_rfl) (by kernel_rfl)
theorem gocheck : InGo Tryz.prog 43 := InGo.of Tryz.func43 rfl (by decide)
theorem check_ok (l : List Rs) (hl : l.length ≤ 10000) : Ok Tryz.prog 43 [rssC l] (intC (chkF l)) := by
  have hC := ContainsFunc_res l _ (fun r => !okR r) gocheck1 (fun x _ => check1_ok x) (by omega)
  have hO := Order_ok l hl
  have hN := Consistent_ok l hl
  have e : chkF l = if (l.any fun r => !okR r) = true then 1 else if 512 < ((sd cmpR (l.filter okR)).length : Int) then 5 else if consB l = true then 0 else 30 := rfl
  have hol : (sd cmpR (l.filter okR)).length ≤ 10000 := by
    have := sd_len cmpR (l.filter okR)
    have := List.length_filter_le okR l
    omega
  generalize chkF l = c at e ⊢
  generalize (l.any fun r => !okR r) = b1 at hC e
  generalize sd cmpR (l.filter okR) = o at hO e hol
  generalize consB l = b3 at hN e
  refine Ok.enter Tryz.func43 rfl _ Tryz.ntmps43 rfl ?_
  intro S w
  (refine Qw (Qx fun K hK => ?_); refine Qv rfl rfl rfl ?_; refine Qj (hK _ _ (Qz (Qw (Q4 (Qw ?_))))); clear hK K; refine Qx (fun K hK => ?_); refine Qq rfl rfl rfl ?_)
  refine QW goContainsFunc_res hC rfl rfl rfl rfl ?_
  (refine Qv rfl rfl rfl ?_; refine Qj (hK _ _ (Qz ?_)); clear hK K)
  refine XX rfl (fun h => ?_) (fun h => ?_)
  · rw [if_pos h] at e
    (refine Qw (Qx fun K hK => ?_); refine Qv rfl rfl rfl ?_; refine Qj (hK _ _ (Qz (Q0 (Q8 (QY ?_))))); clear hK K)
    refine QU [_] rfl (QQ rfl QX) (by rw [e]; rfl) rfl
  rw [if_neg (by rw [h]; decide)] at e
  (refine Qw (Qx fun K hK => ?_); refine Qq rfl rfl rfl ?_)
  refine Z2 3 goOrder hO rfl rfl rfl rfl rfl rfl ?_
  refine ZJ 3 _ rfl (Zz _ _) X7 ?_
  (refine Qd rfl rfl (by with_reducible exact sRes.und) (List.length_map ..) rfl ?_; refine Qk igtr rfl rfl rfl rfl ?_; refine Qv rfl rfl rfl ?_; refine Qj (hK _ _ (Qz ?_)); clear hK K)
  refine Q2 rfl (fun h2 => ?_) (fun h2 => ?_)
  · rw [if_pos h2] at e
    (refine Qw (Qx fun K hK => ?_); refine Qv rfl rfl rfl ?_; refine Qj (hK _ _ (Qz (Q0 (Q8 (QY ?_))))); clear hK K)
    refine QU [_] rfl (QQ rfl QX) (by rw [e]; rfl) rfl
  rw [if_neg h2] at e
  (refine Qw (Qx fun K hK => ?_); refine Qq rfl rfl rfl ?_)
  refine QW goConsistent hN rfl rfl rfl rfl ?_
  (refine Qp rfl rfl rfl ?_; refine Qv rfl rfl rfl ?_; refine Qj (hK _ _ (Qz ?_)); clear hK K)
  refine XX rfl (fun h3 => ?_) (fun h3 => ?_)
  · rw [if_neg (by simpa using h3)] at e
    (refine Qw (Qx fun K hK => ?_); refine Qv rfl rfl rfl ?_; refine Qj (hK _ _ (Qz (Q0 (Q8 (QY ?_))))); clear hK K)
    refine QU [_] rfl (QQ rfl QX) (by rw [e]; rfl) rfl
  rw [if_pos (by simpa using h3)] at e
  (refine Q1 (Qz (Qw (Qx fun K hK => ?_))); refine Qv rfl rfl rfl ?_; refine Qj (hK _ _ (Qz (Q0 ?_))); clear hK K)
  refine QU [_] rfl (QQ rfl QX) (by rw [e]; rfl) rfl
end Go.Proofs.YtlkdkbdgnjcopaaGreat
namespace Go.Proofs.YtlkdkbdgnjcopaaGreat
open Go.Own Go.Limbs
attribute [local irreducible] St Ops Go.Own.Fin Ok OkB OkN OkT OkL OkF
abbrev cnCs (c : Cn) : List CT := [adrF c.wr.1, adrF c.wr.2, intC c.se, intC c.lo, intC c.hi]
abbrev cnC (c : Cn) : CT := .fr (aggT (cnCs c))
abbrev csCs (c : Int × Int) : List CT := [intC c.1, intC c.2]
abbrev csC (c : Int × Int) : CT := .fr (aggT (csCs c))
theorem lCn : LdN Tryz.prog 39 5 := LdN.of _ Tryz.underlying39 rfl (by kernel_rfl)
theorem szCn : (Tryz.prog.info? 39).map (·.size) = some 5 := by kernel_rfl
theorem zvCn : (Tryz.prog.info? 39).map (·.zero) = some (some (.agg #[.int .u32 0, .int .u32 0, .int .i64 0, .int .i64 0, .int .i64 0])) := by kernel_rfl
theorem bCn : bInfo Tryz.prog 39 = some (.agg #[.int .u32 0, .int .u32 0, .int .i64 0, .int .i64 0, .int .i64 0], [(0, some 2), (2, some 1), (3, some 1), (4, some 1)]) := by kernel_rfl
theorem fCn1 : fldInfo Tryz.prog 39 1 = some (2, some 1) := by kernel_rfl
theorem fCn2 : fldInfo Tryz.prog 39 2 = some (3, some 1) := by kernel_rfl
theorem fCn3 : fldInfo Tryz.prog 39 3 = some (4, some 1) := by kernel_rfl
theorem bCs : bInfo Tryz.prog 81 = some (.agg #[.int .i64 0, .int .i64 0], [(0, some 1), (1, some 1)]) := by kernel_rfl
theorem fCs0 : fldInfo Tryz.prog 81 0 = some (0, some 1) := by kernel_rfl
theorem fCs1 : fldInfo Tryz.prog 81 1 = some (1, some 1) := by kernel_rfl
attribute [local irreducible] OkM
theorem wiresG_len : ∀ (l : List (Fin 4294967296)) (p : Fin 4294967296) (b : Bool), (wiresG p l b).length ≤ l.length
  | [], _, _ => Nat.le_refl _
  | a :: l, p, b => by
    have := wiresG_len l a false
    unfold wiresG
    rw [List.length_append, List.length_cons]
    split <;> simp <;> omega
theorem wayF_len (l : List Rs) (r : Rs) : (wayF l r).length ≤ 256 := by
  have h := pathF_len (ofF l (trOf r)) r.fl
  rw [wayF_eq]
  split
  · simp
  · split
    · have := wiresG_len ((pathF (ofF l (trOf r)) r.fl).take r.tt.toNat) 0 true
      rw [List.length_take] at this
      omega
    · split
      · simp
      · have := wiresG_len (pathF (ofF l (trOf r)) r.fl) 0 true
        omega
def crO (l : List Rs) (w : Wr) : List Ik × List Ik × Int :=
  if ¬ chkF l = 0 then ([], [], chkF l) else if (crsF l w true).length + (crsF l w false).length = 0 then ([], [], 8) else ((crsF l w true).map idOf, (crsF l w false).map idOf, 0)
theorem goCrosses : InGo Tryz.prog 27 := InGo.of Tryz.func27 rfl (by decide)
set_option maxHeartbeats 16000000 in
theorem Crosses_ok (l : List Rs) (hl : l.length ≤ 10000) (w : Wr) : Ok Tryz.prog 27 [rssC l, wrC w] (.fr (tupT [iksC (crO l w).1, iksC (crO l w).2.1, intC (crO l w).2.2])) := by
  have hC := check_ok l hl
  have hT := Travel_ok l hl
  have hO := Order_ok l hl
  have hW := fun v hv r al hal => Way_ok l hl v hv r al hal
  have hwl := wayF_len l
  have e : crO l w = if ¬ chkF l = 0 then ([], [], chkF l) else if ((sd cmpR (l.filter okR)).filter fun r => decide (w ∈ wayF l r) && (r.an == true)).length + ((sd cmpR (l.filter okR)).filter fun r => decide (w ∈ wayF l r) && (r.an == false)).length = 0 then ([], [], 8)
    else (((sd cmpR (l.filter okR)).filter fun r => decide (w ∈ wayF l r) && (r.an == true)).map idOf, ((sd cmpR (l.filter okR)).filter fun r => decide (w ∈ wayF l r) && (r.an == false)).map idOf, 0) := rfl
  have hol : (sd cmpR (l.filter okR)).length ≤ 10000 := by
    have := sd_len cmpR (l.filter okR)
    have := List.length_filter_le okR l
    omega
  generalize chkF l = c at hC e
  generalize wayF l = wy at hW e hwl
  generalize sd cmpR (l.filter okR) = o at hO e hol
  generalize crO l w = out at e ⊢
  generalize owF l = om at hT hW
  refine Ok.enter Tryz.func27 rfl _ Tryz.ntmps27 rfl ?_
  intro S w0
  refine Qw ?_
  refine Qx (fun K hK => ?_)
  refine Xk 0 rfl rfl rfl rfl rfl rfl rfl ?_
  (refine Qv rfl rfl rfl ?_; refine Qv rfl rfl rfl ?_; refine Qv rfl rfl rfl ?_; refine Qj (hK _ _ (Qz (Qw (Qw ?_)))); clear hK K; refine Qx (fun K hK => ?_); refine Qq rfl rfl rfl ?_)
  refine QW gocheck hC rfl rfl rfl rfl ?_
  (refine Qv rfl rfl rfl ?_; refine Qj (hK _ _ (Qz (Qw ?_))); clear hK K; refine Qx (fun K hK => ?_); refine Qq rfl rfl rfl ?_; refine Qk ineq rfl rfl rfl rfl ?_; refine Qj (hK _ _ (Qz ?_)); clear hK K)
  refine Q2 rfl (fun h => ?_) (fun h => ?_)
  · rw [if_pos h] at e
    (refine Qw (Qx fun K hK => ?_); refine Qq rfl rfl rfl ?_; refine Qv rfl rfl rfl ?_; refine Qv rfl rfl rfl ?_; refine Qv rfl rfl rfl ?_; refine Qj (hK _ _ (Qz (Q0 (QY ?_)))); clear hK K)
    refine QU [_, _, _] rfl (X4 Z9 (QQ rfl (X4 Z9 (QQ rfl (QQ rfl QX))))) (by rw [e]; rfl) rfl
  rw [if_neg h] at e
  (refine Q1 (Qz (Qw (Qx fun K hK => ?_))); refine Qq rfl rfl rfl ?_)
  refine Ops.callNew 8 gotravel hT rfl rfl rfl (fun _ h => h.elim) rfl rfl rfl (fun v hv => ?_)
  refine Qh 1 rfl rfl (by with_reducible exact zvTrav) rfl rfl rfl ?_
  refine Qe 2 rfl rfl rfl rfl (by show (true && (Value.oneCell' v && true)) = true; rw [hv]; rfl) (by with_reducible exact szTrav) rfl rfl ?_
  (refine Qj (hK _ _ (Qz (Qw ?_))); clear hK K; refine Qx (fun K hK => ?_); refine Qv rfl rfl rfl ?_; refine Qv rfl rfl rfl ?_; refine Qj (hK _ _ (Qz (Qw (Qw ?_)))); clear hK K; refine Qx (fun K hK => ?_); refine Qq rfl rfl rfl ?_)
  refine Z2 3 goOrder hO rfl rfl rfl rfl rfl rfl ?_
  refine ZJ 3 _ rfl (Zz _ _) X7 ?_
  (refine Qd rfl rfl (by with_reducible exact sRes.und) (List.length_map ..) rfl ?_; refine Qq rfl rfl rfl ?_; refine Qj (hK _ _ (Qz (Q4 ?_))); clear hK K)
  refine Xf 9 2 124 3 rfl rfl rfl ?_
  refine Xf 10 4 124 3 rfl rfl rfl ?_
  refine Xz (α := Nat × KnM) (fun q => q.1 ≤ o.length ∧ knOk l q.2)
    (fun q => [(3, .own 0), (8, .own 1), (9, .own 2), (10, .own 4), (21, .ct (rssC o)), (22, .ct (intC o.length)), (23, .ct (intC q.1))])
    (fun q => [(8, .mpx v (knM q.2)), (4, .row 124 3 (iks (((o.take q.1).filter fun r => decide (w ∈ wy r) && (r.an == false)).map idOf))), (2, .row 124 3 (iks (((o.take q.1).filter fun r => decide (w ∈ wy r) && (r.an == true)).map idOf))), (1, .box 94 [.fr (mapT (owM om)), .ex v]), (0, .box 37 (wrCs w))])
    (fun q => o.length - q.1) (0, []) ⟨Nat.zero_le _, fun _ _ h => by cases h⟩ (Entails.front 8 _ rfl <| by exact Qu rfl ⟨rfl, rfl, rfl, rfl, rfl, rfl, rfl, trivial⟩) ?_
  intro ⟨i, m⟩ ⟨hi, hm⟩
  try dsimp only at hi hm ⊢
  (refine Qw (Qx fun K hK => ?_); refine Qk ilss rfl rfl rfl rfl ?_; refine Qj (hK _ _ (Qz (Qw ?_))); clear hK K)
  refine Q2 rfl (fun h => ?_) (fun h => ?_)
  · have e2 : (i : Int).toNat = i := Int.toNat_natCast i
    have hs1 := Zo (fun r => decide (w ∈ wy r) && (r.an == true)) (z := rs0) (i := i) (l := o) (by omega)
    have hs2 := Zo (fun r => decide (w ∈ wy r) && (r.an == false)) (z := rs0) (i := i) (l := o) (by omega)
    have hf1 := Yu (fun r => decide (w ∈ wy r) && (r.an == true)) o i
    have hf2 := Yu (fun r => decide (w ∈ wy r) && (r.an == false)) o i
    (refine Q1 (Qz (Qw (Q4 (Qw (Qx fun K hK => ?_))))); refine Qg rfl rfl rfl (by with_reducible exact sRes) (by omega) (Xa (by omega) (by omega)) rfl ?_; refine XZ (n := 17) rfl rfl rfl (by with_reducible exact lRes) rfl rfl ?_)
    rw [e2]
    generalize o.getD i rs0 = x at hs1 hs2
    generalize (o.take i).filter (fun r => decide (w ∈ wy r) && (r.an == true)) = s1 at hs1 hf1 ⊢
    generalize (o.take i).filter (fun r => decide (w ∈ wy r) && (r.an == false)) = s2 at hs2 hf2 ⊢
    refine Qh 6 rfl rfl (by with_reducible exact zvRes) rfl rfl rfl ?_
    refine Qe 17 rfl rfl rfl rfl rfl (by with_reducible exact szRes) rfl rfl ?_
    (refine Qj (hK _ _ (Qz (Qw (Qw ?_)))); clear hK K)
    refine St.drawQ (by with_reducible exact mixed) [2] (.f 0 (.f 1 (.a 2 (.f 3 (.m 4 (.p 5 .done) .non)) (.m 3 (.a 2 (.m 4 (.p 5 .done) .non) .non) .non)))) (by kernel_rfl) (fun K hK => ?_)
    refine Zq ?_
    refine Qa (n := 2) rfl rfl rfl rfl rfl (by with_reducible exact lTrav) rfl ?_
    refine Qj ?_
    refine Zq ?_
    refine Qa (n := 17) rfl rfl rfl rfl rfl (by with_reducible exact lRes) rfl ?_
    refine Qj ?_
    refine XV ?_ ?_
    · refine Ops.call1 (As := [travC om v, rsC x]) 8 goway (hW v hv x m hm) rfl rfl rfl (fun _ h => h.elim) rfl (fun p hp => absurd hp (by simp)) (fun q j hq => by rcases hq with hq | ⟨_, hq⟩ <;> cases hq) (fun m' hm' => ?_)
      refine Qj ?_
      refine Zq ?_
      refine Qa (n := 2) rfl rfl rfl rfl rfl (by with_reducible exact lWire) rfl ?_
      refine Qj ?_
      refine Xs ?_ Qr
      refine QW goContains_wr (Contains_wr (wy x) w (by have := hwl x; omega)) rfl rfl rfl rfl ?_
      refine Qj ?_
      refine YZ ?_
      refine Qp rfl rfl rfl ?_
      refine Qj ?_
      refine XY (hK _ _ ?_)
      (refine Qz ?_)
      refine XX rfl (fun h2 => ?_) (fun h2 => ?_)
      · rw [if_neg (by simp at h2; simp [h2])] at hs1 hs2
        (refine Qn (Qz (Qx fun K hK => ?_)); refine Qk (iadd (by omega) (by omega)) rfl rfl rfl rfl ?_; refine Qq rfl rfl rfl ?_; refine Qj (hK _ _ (Q3 ?_)); clear hK K)
        refine Qm 6 ?_
        refine Q7 (i + 1, m') (by dsimp only; omega) ⟨by dsimp only; omega, hm'⟩ (by dsimp only; rw [hs1, hs2]; exact Qu rfl ⟨rfl, rfl, rfl, rfl, rfl, rfl, by simp only [Int.natCast_add]; rfl, trivial⟩)
      have h2 : decide (w ∈ wy x) = true := by simpa using h2
      (refine Q1 (Qz (Qw (Qx fun K hK => ?_))); refine QV rfl rfl rfl (by with_reducible first | exact fS0 | exact fS1 | exact fS2 | exact fS3 | exact fS4 | exact fS5 | exact fS6 | exact fS7 | exact fS8 | exact fS9 | exact fS10 | exact fS11 | exact fN0 | exact fN1 | exact fN2 | exact fN3 | exact fN4 | exact fN5) rfl ?_; refine QJ rfl rfl rfl rfl rfl (by with_reducible first | exact lInt | exact Q9 | exact Q6 | exact lRess) rfl ?_; refine Qj (hK _ _ (Qz ?_)); clear hK K)
      refine XX rfl (fun h3 => ?_) (fun h3 => ?_)
      · rw [if_pos (by simp [h2, h3])] at hs1
        rw [if_neg (by simp [h3])] at hs2
        (refine Qx (fun K hK => ?_); refine Qq rfl rfl rfl ?_; refine Qa (n := 17) rfl rfl rfl rfl rfl (by with_reducible exact lRes) rfl ?_)
        refine QW Zr (YX x) rfl rfl rfl rfl ?_
        refine X6 (n := 3) rfl rfl (by with_reducible exact sIks) rfl rfl (by decide) rfl ?_
        refine Qs (s1.map idOf).length (iks (s1.map idOf ++ [idOf x])) rfl rfl rfl rfl (by with_reducible exact sIks) (iks_len _) rfl (by rw [List.length_map]; omega) (by rw [List.length_map]; omega) (iks_snoc _ _) rfl ?_
        (refine Qv rfl rfl rfl ?_; refine Qj (hK _ _ (Qz ?_)); clear hK K; refine Qx (fun K hK => ?_); refine Qk (iadd (by omega) (by omega)) rfl rfl rfl rfl ?_; refine Qq rfl rfl rfl ?_; refine Qj (hK _ _ (Q3 ?_)); clear hK K)
        refine Qm 6 ?_
        refine Q7 (i + 1, m') (by dsimp only; omega) ⟨by dsimp only; omega, hm'⟩ (by dsimp only; rw [hs1, hs2, List.map_append]; exact Qu rfl ⟨rfl, rfl, rfl, rfl, rfl, rfl, by simp only [Int.natCast_add]; rfl, trivial⟩)
      · rw [if_neg (by simp [h3])] at hs1
        rw [if_pos (by simp [h2, h3])] at hs2
        (refine Qx (fun K hK => ?_); refine Qq rfl rfl rfl ?_; refine Qa (n := 17) rfl rfl rfl rfl rfl (by with_reducible exact lRes) rfl ?_)
        refine QW Zr (YX x) rfl rfl rfl rfl ?_
        refine X6 (n := 3) rfl rfl (by with_reducible exact sIks) rfl rfl (by decide) rfl ?_
        refine Qs (s2.map idOf).length (iks (s2.map idOf ++ [idOf x])) rfl rfl rfl rfl (by with_reducible exact sIks) (iks_len _) rfl (by rw [List.length_map]; omega) (by rw [List.length_map]; omega) (iks_snoc _ _) rfl ?_
        (refine Qv rfl rfl rfl ?_; refine Qj (hK _ _ (Qz ?_)); clear hK K; refine Qx (fun K hK => ?_); refine Qk (iadd (by omega) (by omega)) rfl rfl rfl rfl ?_; refine Qq rfl rfl rfl ?_; refine Qj (hK _ _ (Q3 ?_)); clear hK K)
        refine Qm 6 ?_
        refine Q7 (i + 1, m') (by dsimp only; omega) ⟨by dsimp only; omega, hm'⟩ (by dsimp only; rw [hs1, hs2, List.map_append]; exact Qu rfl ⟨rfl, rfl, rfl, rfl, rfl, rfl, by simp only [Int.natCast_add]; rfl, trivial⟩)
    refine Xs ?_ Qr
    refine Qa (n := 2) rfl rfl rfl rfl rfl (by with_reducible exact lWire) rfl ?_
    refine Qj ?_
    refine XV ?_ Qr
    refine Ops.call1 (As := [travC om v, rsC x]) 8 goway (hW v hv x m hm) rfl rfl rfl (fun _ h => h.elim) rfl (fun p hp => absurd hp (by simp)) (fun q j hq => by rcases hq with hq | ⟨_, hq⟩ <;> cases hq) (fun m' hm' => ?_)
    refine Qj ?_
    refine Xs ?_ Qr
    refine QW goContains_wr (Contains_wr (wy x) w (by have := hwl x; omega)) rfl rfl rfl rfl ?_
    refine Qj ?_
    refine YZ ?_
    refine Qp rfl rfl rfl ?_
    refine Qj ?_
    refine XY (hK _ _ ?_)
    (refine Qz ?_)
    refine XX rfl (fun h2 => ?_) (fun h2 => ?_)
    · rw [if_neg (by simp at h2; simp [h2])] at hs1 hs2
      (refine Qn (Qz (Qx fun K hK => ?_)); refine Qk (iadd (by omega) (by omega)) rfl rfl rfl rfl ?_; refine Qq rfl rfl rfl ?_; refine Qj (hK _ _ (Q3 ?_)); clear hK K)
      refine Qm 6 ?_
      refine Q7 (i + 1, m') (by dsimp only; omega) ⟨by dsimp only; omega, hm'⟩ (by dsimp only; rw [hs1, hs2]; exact Qu rfl ⟨rfl, rfl, rfl, rfl, rfl, rfl, by simp only [Int.natCast_add]; rfl, trivial⟩)
    have h2 : decide (w ∈ wy x) = true := by simpa using h2
    (refine Q1 (Qz (Qw (Qx fun K hK => ?_))); refine QV rfl rfl rfl (by with_reducible first | exact fS0 | exact fS1 | exact fS2 | exact fS3 | exact fS4 | exact fS5 | exact fS6 | exact fS7 | exact fS8 | exact fS9 | exact fS10 | exact fS11 | exact fN0 | exact fN1 | exact fN2 | exact fN3 | exact fN4 | exact fN5) rfl ?_; refine QJ rfl rfl rfl rfl rfl (by with_reducible first | exact lInt | exact Q9 | exact Q6 | exact lRess) rfl ?_; refine Qj (hK _ _ (Qz ?_)); clear hK K)
    refine XX rfl (fun h3 => ?_) (fun h3 => ?_)
    · rw [if_pos (by simp [h2, h3])] at hs1
      rw [if_neg (by simp [h3])] at hs2
      (refine Qx (fun K hK => ?_); refine Qq rfl rfl rfl ?_; refine Qa (n := 17) rfl rfl rfl rfl rfl (by with_reducible exact lRes) rfl ?_)
      refine QW Zr (YX x) rfl rfl rfl rfl ?_
      refine X6 (n := 3) rfl rfl (by with_reducible exact sIks) rfl rfl (by decide) rfl ?_
      refine Qs (s1.map idOf).length (iks (s1.map idOf ++ [idOf x])) rfl rfl rfl rfl (by with_reducible exact sIks) (iks_len _) rfl (by rw [List.length_map]; omega) (by rw [List.length_map]; omega) (iks_snoc _ _) rfl ?_
      (refine Qv rfl rfl rfl ?_; refine Qj (hK _ _ (Qz ?_)); clear hK K; refine Qx (fun K hK => ?_); refine Qk (iadd (by omega) (by omega)) rfl rfl rfl rfl ?_; refine Qq rfl rfl rfl ?_; refine Qj (hK _ _ (Q3 ?_)); clear hK K)
      refine Qm 6 ?_
      refine Q7 (i + 1, m') (by dsimp only; omega) ⟨by dsimp only; omega, hm'⟩ (by dsimp only; rw [hs1, hs2, List.map_append]; exact Qu rfl ⟨rfl, rfl, rfl, rfl, rfl, rfl, by simp only [Int.natCast_add]; rfl, trivial⟩)
    · rw [if_neg (by simp [h3])] at hs1
      rw [if_pos (by simp [h2, h3])] at hs2
      (refine Qx (fun K hK => ?_); refine Qq rfl rfl rfl ?_; refine Qa (n := 17) rfl rfl rfl rfl rfl (by with_reducible exact lRes) rfl ?_)
      refine QW Zr (YX x) rfl rfl rfl rfl ?_
      refine X6 (n := 3) rfl rfl (by with_reducible exact sIks) rfl rfl (by decide) rfl ?_
      refine Qs (s2.map idOf).length (iks (s2.map idOf ++ [idOf x])) rfl rfl rfl rfl (by with_reducible exact sIks) (iks_len _) rfl (by rw [List.length_map]; omega) (by rw [List.length_map]; omega) (iks_snoc _ _) rfl ?_
      (refine Qv rfl rfl rfl ?_; refine Qj (hK _ _ (Qz ?_)); clear hK K; refine Qx (fun K hK => ?_); refine Qk (iadd (by omega) (by omega)) rfl rfl rfl rfl ?_; refine Qq rfl rfl rfl ?_; refine Qj (hK _ _ (Q3 ?_)); clear hK K)
      refine Qm 6 ?_
      refine Q7 (i + 1, m') (by dsimp only; omega) ⟨by dsimp only; omega, hm'⟩ (by dsimp only; rw [hs1, hs2, List.map_append]; exact Qu rfl ⟨rfl, rfl, rfl, rfl, rfl, rfl, by simp only [Int.natCast_add]; rfl, trivial⟩)
  · have hi' : i = o.length := by omega
    rw [hi', List.take_length]
    have hf1 := List.length_filter_le (fun r => decide (w ∈ wy r) && (r.an == true)) o
    have hf2 := List.length_filter_le (fun r => decide (w ∈ wy r) && (r.an == false)) o
    generalize o.filter (fun r => decide (w ∈ wy r) && (r.an == true)) = s1 at e hf1 ⊢
    generalize o.filter (fun r => decide (w ∈ wy r) && (r.an == false)) = s2 at e hf2 ⊢
    (refine Qn (Qz (Qw (Qw (Qx fun K hK => ?_)))); refine Qq rfl rfl rfl ?_)
    refine Yv _ rfl rfl rfl (by decide) (iks_len _) (by with_reducible exact sIks.und) rfl ?_
    (refine Qq rfl rfl rfl ?_)
    refine Yv _ rfl rfl rfl (by decide) (iks_len _) (by with_reducible exact sIks.und) rfl ?_
    rw [List.length_map, List.length_map]
    (refine Qk (iadd (by omega) (by omega)) rfl rfl rfl rfl ?_; refine Qk ieql rfl rfl rfl rfl ?_; refine Qj (hK _ _ (Qz ?_)); clear hK K)
    refine Q2 rfl (fun h2 => ?_) (fun h2 => ?_)
    · rw [if_pos (by omega)] at e
      (refine Qw (Qx fun K hK => ?_); refine Qv rfl rfl rfl ?_; refine Qv rfl rfl rfl ?_; refine Qv rfl rfl rfl ?_; refine Qj (hK _ _ (Qz (Q0 (QY ?_)))); clear hK K)
      refine QU [_, _, _] rfl (X4 Z9 (QQ rfl (X4 Z9 (QQ rfl (QQ rfl QX))))) (by rw [e]; rfl) rfl
    · rw [if_neg (by omega)] at e
      (refine Q1 (Qz (Qw (Qx fun K hK => ?_))); refine Qq rfl rfl rfl ?_; refine Qq rfl rfl rfl ?_; refine Qv rfl rfl rfl ?_; refine Qv rfl rfl rfl ?_; refine Qv rfl rfl rfl ?_; refine Qj (hK _ _ (Qz (Q0 ?_))); clear hK K)
      refine Fin.freeze 2 _ rfl (iks_frozen _ _) X7 ?_
      refine Fin.freeze 4 _ rfl (iks_frozen _ _) X7 ?_
      refine QU [_, _, _] rfl (QQ rfl (QQ rfl (QQ rfl QX))) (by rw [e]; rfl) rfl
theorem gocounted : InGo Tryz.prog 38 := InGo.of Tryz.func38 rfl (by decide)
theorem counted_ok (w : Wr) (a b n : Int) (ha : 0 ≤ a ∧ a ≤ 100000) (hb : 0 ≤ b ∧ b ≤ 100000) (hn : 0 ≤ n ∧ n ≤ 1048576) : Ok Tryz.prog 38 [wrC w, csC (a, b), intC n] (cnC ⟨w, a, max 0 (b - n), b⟩) := by
  refine Ok.enter Tryz.func38 rfl _ Tryz.ntmps38 rfl ?_
  intro S w0
  refine Qw ?_
  refine Qx (fun K hK => ?_)
  refine Xk 0 rfl rfl rfl rfl rfl rfl rfl ?_
  refine Xk 1 rfl rfl rfl rfl rfl rfl rfl ?_
  refine Qh 2 rfl rfl (by with_reducible exact zvCn) rfl rfl rfl ?_
  (refine Qj (hK _ _ (Qz (Qw ?_))); clear hK K; refine Qx (fun K hK => ?_); refine Qa (n := 2) rfl rfl rfl rfl rfl (by with_reducible first | exact lTrav | exact lWire | exact lCs) rfl ?_; refine QV rfl rfl rfl (by with_reducible first | exact fTk0 | exact fTk1 | exact fTk2 | exact fWr0 | exact fWr1 | exact X0 | exact XK | exact Xl | exact fStm1 | exact fCn0 | exact fCn1 | exact fCn2 | exact fCn3 | exact fCs0 | exact fCs1) rfl ?_; refine QJ rfl rfl rfl rfl rfl (by with_reducible first | exact lInt | exact Q9 | exact Q6 | exact lRess) rfl ?_; refine QV rfl rfl rfl (by with_reducible first | exact fTk0 | exact fTk1 | exact fTk2 | exact fWr0 | exact fWr1 | exact X0 | exact XK | exact Xl | exact fStm1 | exact fCn0 | exact fCn1 | exact fCn2 | exact fCn3 | exact fCs0 | exact fCs1) rfl ?_; refine QJ rfl rfl rfl rfl rfl (by with_reducible first | exact lInt | exact Q9 | exact Q6 | exact lRess) rfl ?_; refine Qq rfl rfl rfl ?_; refine Qk (isub (by omega) (by omega)) rfl rfl rfl rfl ?_; refine Ops.max2 rfl rfl rfl rfl ?_; refine QV rfl rfl rfl (by with_reducible first | exact fTk0 | exact fTk1 | exact fTk2 | exact fWr0 | exact fWr1 | exact X0 | exact XK | exact Xl | exact fStm1 | exact fCn0 | exact fCn1 | exact fCn2 | exact fCn3 | exact fCs0 | exact fCs1) rfl ?_; refine QJ rfl rfl rfl rfl rfl (by with_reducible first | exact lInt | exact Q9 | exact Q6 | exact lRess) rfl ?_)
  refine Xq rfl (by with_reducible exact bCn) rfl (.agg rfl rfl rfl rfl (.one rfl rfl rfl rfl (.one rfl rfl rfl rfl (.one rfl rfl rfl rfl .nil)))) rfl ?_
  (refine Qe 5 rfl rfl rfl rfl rfl (by with_reducible exact szCn) rfl rfl ?_; refine Qj (hK _ _ (Qz (Q0 ?_))); clear hK K)
  refine QU [_] rfl (Qi (n := 5) rfl rfl (by with_reducible exact lCn) rfl QX) rfl rfl
theorem goCount : InGo Tryz.prog 12 := InGo.of Tryz.func12 rfl (by decide)
set_option maxHeartbeats 4000000 in
theorem Count_ok (l : List Rs) (hl : l.length ≤ 10000) (w : Wr) (n : Int) : Ok Tryz.prog 12 [rssC l, wrC w, intC n] (.fr (tupT [cnC (cntF l w n).1, intC (cntF l w n).2])) := by
  have hX := Crosses_ok l hl w
  have hlen : ∀ b, (crsF l w b).length ≤ 10000 := fun b => by
    have := sd_len cmpR (l.filter okR)
    have := List.length_filter_le okR l
    have := List.length_filter_le (fun r => decide (w ∈ wayF l r) && (r.an == b)) (sd cmpR (l.filter okR))
    unfold crsF; omega
  have e : cntF l w n = if n < 0 ∨ 1048576 < n then (cn0, 1) else if ¬ (crO l w).2.2 = 0 then (cn0, (crO l w).2.2) else (⟨w, ((crO l w).1.length : Int) + (crO l w).2.1.length, max 0 ((crO l w).2.1.length - n), (crO l w).2.1.length⟩, 0) := by
    unfold cntF crO
    by_cases h0 : n < 0 ∨ 1048576 < n
    · rw [if_pos h0, if_pos h0]
    rw [if_neg h0, if_neg h0]
    by_cases h1 : chkF l = 0
    · by_cases h2 : (crsF l w true).length + (crsF l w false).length = 0
      · simp only [ne_eq, h1, h2, not_true_eq_false, if_false, if_true, reduceIte]; rfl
      · simp only [ne_eq, h1, h2, not_true_eq_false, if_false, if_true, reduceIte, List.length_map]
    · simp only [ne_eq, h1, not_false_eq_true, if_true, reduceIte]
  have hl1 : (crO l w).1.length ≤ 10000 ∧ (crO l w).2.1.length ≤ 10000 := by
    unfold crO
    have h1 := hlen true
    have h2 := hlen false
    split
    · simp
    · split
      · simp
      · simp only [List.length_map]; exact ⟨h1, h2⟩
  generalize cntF l w n = out at e ⊢
  generalize crO l w = c at hX e hl1
  obtain ⟨s, t, c⟩ := c
  dsimp only at hX e hl1
  refine Ok.enter Tryz.func12 rfl _ Tryz.ntmps12 rfl ?_
  intro S w0
  refine Qw ?_
  refine Qx (fun K hK => ?_)
  refine Xk 0 rfl rfl rfl rfl rfl rfl rfl ?_
  refine Qh 1 rfl rfl (by with_reducible exact zvCn) rfl rfl rfl ?_
  (refine Qv rfl rfl rfl ?_; refine Qj (hK _ _ (Qz (Qw (Qw ?_)))); clear hK K; refine Qx (fun K hK => ?_); refine Qq rfl rfl rfl ?_; refine Qk ilss rfl rfl rfl rfl ?_; refine Qq rfl rfl rfl ?_)
  refine Q5 13 rfl (fun h1 => ?_) (fun h1 => ?_)
  · rw [if_pos (.inl h1)] at e
    (refine Qy rfl rfl rfl ?_; refine Qy rfl rfl rfl ?_; refine QZ rfl rfl rfl rfl ?_; refine Qj (hK _ _ (Qz (Qo rfl (Qw ?_)))); clear hK K; refine Qx (fun K hK => ?_))
    refine Xq rfl (by with_reducible exact bCn) rfl .nil rfl ?_
    (refine Qe 5 rfl rfl rfl rfl rfl (by with_reducible exact szCn) rfl rfl ?_; refine Qv rfl rfl rfl ?_; refine Qj (hK _ _ (Qz (Q0 (QY ?_)))); clear hK K)
    refine QU [_, _] rfl (Qi (n := 5) rfl rfl (by with_reducible exact lCn) rfl (QQ rfl QX)) (by rw [e]; rfl) rfl
  (refine Qq rfl rfl rfl ?_; refine Qk igtr rfl rfl rfl rfl ?_; refine QK rfl rfl rfl rfl ?_; refine Qj (hK _ _ (Qz ?_)); clear hK K)
  refine Q2 rfl (fun h2 => ?_) (fun h2 => ?_)
  · rw [if_pos (.inr h2)] at e
    (refine Qw (Qx fun K hK => ?_))
    refine Xq rfl (by with_reducible exact bCn) rfl .nil rfl ?_
    (refine Qe 5 rfl rfl rfl rfl rfl (by with_reducible exact szCn) rfl rfl ?_; refine Qv rfl rfl rfl ?_; refine Qj (hK _ _ (Qz (Q0 (QY ?_)))); clear hK K)
    refine QU [_, _] rfl (Qi (n := 5) rfl rfl (by with_reducible exact lCn) rfl (QQ rfl QX)) (by rw [e]; rfl) rfl
  rw [if_neg (fun h => h.elim h1 h2)] at e
  (refine Q1 (Qz (Qw (Qx fun K hK => ?_))); refine Qq rfl rfl rfl ?_; refine Qa (n := 2) rfl rfl rfl rfl rfl (by with_reducible first | exact lTrav | exact lWire | exact lCs) rfl ?_)
  refine QW goCrosses hX rfl rfl rfl rfl ?_
  (refine Qq rfl rfl rfl ?_; refine Qf rfl rfl rfl rfl ?_; refine Qf rfl rfl rfl rfl ?_; refine Qf rfl rfl rfl rfl ?_; refine Qv rfl rfl rfl ?_; refine Qv rfl rfl rfl ?_; refine Qv rfl rfl rfl ?_; refine Qj (hK _ _ (Qz (Qw (Qw ?_)))); clear hK K; refine Qx (fun K hK => ?_); refine Qq rfl rfl rfl ?_; refine Qk ineq rfl rfl rfl rfl ?_; refine Qj (hK _ _ (Qz ?_)); clear hK K)
  refine Q2 rfl (fun h3 => ?_) (fun h3 => ?_)
  · rw [if_pos h3] at e
    (refine Qw (Qx fun K hK => ?_))
    refine Xq rfl (by with_reducible exact bCn) rfl .nil rfl ?_
    (refine Qq rfl rfl rfl ?_; refine Qe 5 rfl rfl rfl rfl rfl (by with_reducible exact szCn) rfl rfl ?_; refine Qv rfl rfl rfl ?_; refine Qj (hK _ _ (Qz (Q0 (QY ?_)))); clear hK K)
    refine QU [_, _] rfl (Qi (n := 5) rfl rfl (by with_reducible exact lCn) rfl (QQ rfl QX)) (by rw [e]; rfl) rfl
  rw [if_neg h3] at e
  (refine Q1 (Qz (Qw (Qx fun K hK => ?_))); refine Qa (n := 2) rfl rfl rfl rfl rfl (by with_reducible first | exact lTrav | exact lWire | exact lCs) rfl ?_; refine Qq rfl rfl rfl ?_; refine Qd rfl rfl (by with_reducible first | exact sTks.und | exact sWrs.und | exact sIks.und | exact sAdrs.und) (List.length_map ..) rfl ?_; refine Qq rfl rfl rfl ?_; refine Qd rfl rfl (by with_reducible first | exact sTks.und | exact sWrs.und | exact sIks.und | exact sAdrs.und) (List.length_map ..) rfl ?_; refine Qk (iadd (by omega) (by omega)) rfl rfl rfl rfl ?_; refine Qq rfl rfl rfl ?_; refine Qd rfl rfl (by with_reducible first | exact sTks.und | exact sWrs.und | exact sIks.und | exact sAdrs.und) (List.length_map ..) rfl ?_)
  refine Xq rfl (by with_reducible exact bCs) rfl (.one rfl rfl rfl rfl (.one rfl rfl rfl rfl .nil)) rfl ?_
  (refine Qq rfl rfl rfl ?_)
  refine QW gocounted (counted_ok w (s.length + t.length) t.length n (by omega) (by omega) (by omega)) rfl rfl rfl rfl ?_
  (refine Qe 5 rfl rfl rfl rfl rfl (by with_reducible exact szCn) rfl rfl ?_; refine Qv rfl rfl rfl ?_; refine Qj (hK _ _ (Qz (Q0 ?_))); clear hK K)
  refine QU [_, _] rfl (Qi (n := 5) rfl rfl (by with_reducible exact lCn) rfl (QQ rfl QX)) (by rw [e]; rfl) rfl
end Go.Proofs.YtlkdkbdgnjcopaaGreat
namespace Go.Proofs.YtlkdkbdgnjcopaaGreat
open Go.Own Go.Limbs
theorem end_spec : ∀ (l : List Rs) (e : Int), 0 ≤ e → (∀ r ∈ l, fiR r = true → 1 ≤ r.tt) →
    0 ≤ l.foldl endS e ∧ (0 < e → 0 < l.foldl endS e ∧ l.foldl endS e ≤ e) ∧ (∀ r ∈ l, fiR r = true → 0 < l.foldl endS e ∧ l.foldl endS e ≤ r.tt) ∧ (l.foldl endS e = e ∨ ∃ r ∈ l, fiR r = true ∧ l.foldl endS e = r.tt)
  | [], e, h, _ => ⟨h, fun h => ⟨h, Int.le_refl _⟩, fun r h => absurd h (by simp), .inl rfl⟩
  | x :: l, e, h, ht => by
    have hx := ht x (List.mem_cons_self ..)
    by_cases hc : (e = 0 ∨ x.tt < e) ∧ fiR x = true
    · have e1 : endS e x = x.tt := if_pos hc
      have h1 := hx hc.2
      obtain ⟨a1, a2, a3, a4⟩ := end_spec l x.tt (by omega) (fun r hr => ht r (List.mem_cons_of_mem _ hr))
      have a2 := a2 (by omega)
      rw [List.foldl_cons, e1]
      refine ⟨a1, fun he => ⟨a2.1, ?_⟩, fun r hr hf => ?_, ?_⟩
      · rcases hc.1 with h | h <;> omega
      · rcases List.mem_cons.1 hr with hr | hr
        · subst hr; exact a2
        · exact a3 r hr hf
      · rcases a4 with a4 | ⟨r, hr, hf, a4⟩
        · exact .inr ⟨x, List.mem_cons_self .., hc.2, a4⟩
        · exact .inr ⟨r, List.mem_cons_of_mem _ hr, hf, a4⟩
    · have e1 : endS e x = e := if_neg hc
      obtain ⟨a1, a2, a3, a4⟩ := end_spec l e h (fun r hr => ht r (List.mem_cons_of_mem _ hr))
      rw [List.foldl_cons, e1]
      refine ⟨a1, a2, fun r hr hf => ?_, ?_⟩
      · rcases List.mem_cons.1 hr with hr | hr
        · subst hr
          have : ¬ (e = 0 ∨ r.tt < e) := fun h => hc ⟨h, hf⟩
          have := a2 (by omega)
          omega
        · exact a3 r hr hf
      · rcases a4 with a4 | ⟨r, hr, hf, a4⟩
        · exact .inl a4
        · exact .inr ⟨r, List.mem_cons_of_mem _ hr, hf, a4⟩
theorem fiR_tt {r : Rs} (h : fiR r = true) : 1 ≤ r.tt := by
  unfold fiR at h
  simp only [Bool.and_eq_true] at h
  exact (usR_tt h.2.2).1
theorem end_sub {l m : List Rs} (h : ∀ r ∈ l, r ∈ m) : endF l = 0 ∨ (0 < endF m ∧ endF m ≤ endF l) := by
  obtain ⟨_, _, _, a4⟩ := end_spec l 0 (Int.le_refl _) (fun r _ hf => fiR_tt hf)
  obtain ⟨_, _, b3, _⟩ := end_spec m 0 (Int.le_refl _) (fun r _ hf => fiR_tt hf)
  rcases a4 with a4 | ⟨r, hr, hf, a4⟩
  · exact .inl a4
  · have := b3 r (h r hr) hf
    exact .inr ⟨this.1, by show endF m ≤ endF l; rw [show endF l = r.tt from a4]; exact this.2⟩
theorem kS_filter (f tt : Int) : ∀ (l : List Rs) (s : Fin 4294967296 × Int), (l.filter fun r => decide (r.fl = f)).foldl (kS f tt) s = l.foldl (kS f tt) s
  | [], _ => rfl
  | r :: l, s => by
    by_cases h : r.fl = f
    · rw [List.filter_cons_of_pos (by simpa using h), List.foldl_cons, List.foldl_cons, kS_filter f tt l]
    · have : kS f tt s r = s := if_pos (.inr (.inl h))
      rw [List.filter_cons_of_neg (by simpa using h), List.foldl_cons, this, kS_filter f tt l]
theorem spV_flow (x : List Rs) (f tt : Int) (h : hasS (lookG x).2 f tt = true) : spV (lookG (x.filter fun r => decide (r.fl = f))) f tt = spV (lookG x) f tt := by
  have hn : ¬ (0 < endF x ∧ endF x < tt) := fun hc => by
    have e := lookG_key x f tt
    rw [if_pos hc] at e
    have e2 : (look1 (lookG x).2 (f, tt)).getD 0 = 0 := congrArg Prod.snd e
    unfold hasS at h
    rw [e2] at h
    exact absurd h (by decide)
  have he := end_sub (l := x.filter fun r => decide (r.fl = f)) (m := x) (fun r hr => (List.mem_filter.1 hr).1)
  rw [lookG_key, lookG_key, if_neg hn, if_neg (fun hc => hn (by omega)), kS_filter]
theorem pathG_pre (mx mo : AdM × StM) (f : Int) (h : ∀ tt, hasS mx.2 f tt = true → spV mo f tt = spV mx f tt) : ∀ (k : Nat) (tt : Int), pathG mx f k tt <+: pathG mo f k tt
  | 0, _ => List.nil_prefix
  | k + 1, tt => by
    unfold pathG
    by_cases hh : hasS mx.2 f tt = true
    · have e := h tt hh
      have e1 : (look1 mo.1 (f, tt)).getD 0 = (look1 mx.1 (f, tt)).getD 0 := congrArg Prod.fst e
      have e2 : (look1 mo.2 (f, tt)).getD 0 = (look1 mx.2 (f, tt)).getD 0 := congrArg Prod.snd e
      have e3 : hasS mo.2 f tt = true := by unfold hasS at hh ⊢; rw [e2]; exact hh
      rw [if_pos hh, if_pos e3, e1]
      exact (List.cons_prefix_cons).2 ⟨rfl, pathG_pre mx mo f h k (tt + 1)⟩
    · rw [if_neg hh]; exact List.nil_prefix
theorem path_pre (x : List Rs) (f : Int) : pathF x f <+: pathF (x.filter fun r => decide (r.fl = f)) f := pathG_pre _ _ f (fun tt h => spV_flow x f tt h) 256 1
def pvF (p0 : Fin 4294967296) (l : List (Fin 4294967296)) (j : Nat) : Fin 4294967296 := if j = 0 then p0 else l.getD (j - 1) 0
theorem mem_wiresG (w : Wr) : ∀ (l : List (Fin 4294967296)) (p0 : Fin 4294967296) (first : Bool), w ∈ wiresG p0 l first ↔ ∃ j, j < l.length ∧ l.getD j 0 ≠ 0 ∧ ((j = 0 ∧ first = true) ∨ pvF p0 l j ≠ 0) ∧ w = (pvF p0 l j, l.getD j 0)
  | [], p0, first => ⟨fun h => (by cases h), fun ⟨j, h, _⟩ => absurd h (Nat.not_lt_zero _)⟩
  | a :: l, p0, first => by
    have ih := mem_wiresG w l a false
    have ep : ∀ j, pvF p0 (a :: l) (j + 1) = pvF a l j := fun j => by
      unfold pvF
      rw [if_neg (by omega)]
      cases j with
      | zero => rfl
      | succ j => rw [if_neg (by omega)]; rfl
    show w ∈ (if a ≠ 0 ∧ (first = true ∨ p0 ≠ 0) then [(p0, a)] else []) ++ wiresG a l false ↔ _
    rw [List.mem_append, ih]
    constructor
    · rintro (h | ⟨j, h1, h2, h3, h4⟩)
      · by_cases hc : a ≠ 0 ∧ (first = true ∨ p0 ≠ 0)
        · rw [if_pos hc, List.mem_singleton] at h
          exact ⟨0, by simp, hc.1, hc.2.elim (fun h => .inl ⟨rfl, h⟩) (fun h => .inr h), h⟩
        · rw [if_neg hc] at h; cases h
      · refine ⟨j + 1, by simpa using h1, h2, .inr ?_, ?_⟩
        · rw [ep]; rcases h3 with h3 | h3
          · cases h3.2
          · exact h3
        · rw [ep]; exact h4
    · rintro ⟨j, h1, h2, h3, h4⟩
      cases j with
      | zero =>
        refine .inl ?_
        rw [if_pos ⟨h2, h3.elim (fun h => .inl h.2) (fun h => .inr h)⟩, List.mem_singleton]
        exact h4
      | succ j =>
        rw [ep] at h3 h4
        refine .inr ⟨j, by simpa using h1, h2, .inr ?_, h4⟩
        rcases h3 with h3 | h3
        · omega
        · exact h3
def repP (p : List (Fin 4294967296)) (w : Wr) (k : Nat) : Bool := decide (1 ≤ k) && (decide (p.getD (k - 1) 0 = w.1) && decide (p.getD k 0 = w.2))
def repC (p : List (Fin 4294967296)) (w : Wr) : Nat → Nat
  | 0 => 0
  | k + 1 => repC p w k + if repP p w k = true then 1 else 0
theorem repC_mono (p : List (Fin 4294967296)) (w : Wr) : ∀ {a b : Nat}, a ≤ b → repC p w a ≤ repC p w b
  | a, 0, h => by have : a = 0 := by omega
                  subst this; exact Nat.le_refl _
  | a, b + 1, h => by
    by_cases e : a = b + 1
    · subst e; exact Nat.le_refl _
    · have := repC_mono p w (a := a) (b := b) (by omega)
      show _ ≤ repC p w b + _
      omega
theorem repC_two {p : List (Fin 4294967296)} {w : Wr} {i j n : Nat} (h1 : i < j) (h2 : j < n) (hi : repP p w i = true) (hj : repP p w j = true) : 2 ≤ repC p w n := by
  have a1 : repC p w (i + 1) = repC p w i + 1 := by show repC p w i + _ = _; rw [if_pos hi]
  have a2 : repC p w (j + 1) = repC p w j + 1 := by show repC p w j + _ = _; rw [if_pos hj]
  have a3 := repC_mono p w (a := i + 1) (b := j) (by omega)
  have a4 := repC_mono p w (a := j + 1) (b := n) (by omega)
  omega
theorem wayF_pre {own : List Rs} {t : Tk} {f : Int} (hok : ∀ r ∈ own, okR r = true) (htr : ∀ r ∈ own, trOf r = t) (hup : Up cmpR own) (hfl : ∀ r ∈ own, r.fl = f) {r : Rs} (hr : r ∈ own) :
    ∃ n, n ≤ (pathF own f).length ∧ wayF own r = wiresG 0 ((pathF own f).take n) true := by
  have e : ofF own (trOf r) = own := by
    unfold ofF
    rw [sd_same hup hok]
    exact List.filter_eq_self.2 fun x hx => decide_eq_true (by rw [htr x hx, htr r hr])
  have hw : wayF own r = if usR r = false then [] else if r.tt ≤ ((pathF own f).length : Int) then wiresG 0 ((pathF own f).take r.tt.toNat) true
      else if ((pathF own f).length : Int) < r.tt - 1 ∨ r.an = true then [] else wiresG 0 (pathF own f) true := by
    have h0 : wayF own r = if usR r = false then [] else if r.tt ≤ ((pathF (ofF own (trOf r)) r.fl).length : Int) then wiresG 0 ((pathF (ofF own (trOf r)) r.fl).take r.tt.toNat) true
      else if ((pathF (ofF own (trOf r)) r.fl).length : Int) < r.tt - 1 ∨ r.an = true then [] else wiresG 0 (pathF (ofF own (trOf r)) r.fl) true := rfl
    rw [h0, e, hfl r hr]
  rw [hw]
  split
  · exact ⟨0, Nat.zero_le _, rfl⟩
  · split
    · exact ⟨r.tt.toNat, by omega, rfl⟩
    · split
      · exact ⟨0, Nat.zero_le _, rfl⟩
      · exact ⟨_, Nat.le_refl _, by rw [List.take_length]⟩
theorem near {q p : List (Fin 4294967296)} (hpq : p <+: q) {n i : Nat} (hn : n ≤ q.length) (hi : i + 1 < p.length) (h0 : p.getD i 0 ≠ 0) (h1 : i = 0 ∨ p.getD (i - 1) 0 ≠ 0)
    (hrep : ¬ 1 < repC p (p.getD i 0, p.getD (i + 1) 0) p.length) (hw : (p.getD i 0, p.getD (i + 1) 0) ∈ wiresG 0 (q.take n) true) : (pvF 0 p i, p.getD i 0) ∈ wiresG 0 (q.take n) true := by
  obtain ⟨z, rfl⟩ := hpq
  have eq : ∀ j, j < p.length → (p ++ z).getD j 0 = p.getD j 0 := fun j hj => by
    rw [List.getD_eq_getElem?_getD, List.getElem?_append_left hj, ← List.getD_eq_getElem?_getD]
  have et : ∀ j, j < n → ((p ++ z).take n).getD j 0 = (p ++ z).getD j 0 := fun j hj => by
    rw [List.getD_eq_getElem?_getD, List.getElem?_take_of_lt hj, ← List.getD_eq_getElem?_getD]
  have hlen : ((p ++ z).take n).length = n := by rw [List.length_take]; omega
  have hin : i < n := by
    refine Decidable.byContradiction fun hc => hrep ?_
    obtain ⟨j, a1, a2, a3, a4⟩ := (mem_wiresG _ _ _ _).1 hw
    rw [hlen] at a1
    injection a4 with b1 b2
    rw [et j a1, eq j (by omega)] at b2
    have hj : j ≠ 0 := fun hj => by subst hj; exact h0 b1
    have b1 : p.getD i 0 = p.getD (j - 1) 0 := by
      rw [b1]; unfold pvF; rw [if_neg hj, et _ (by omega), eq _ (by omega)]
    refine repC_two (i := j) (j := i + 1) (by omega) hi ?_ ?_
    · unfold repP; rw [decide_eq_true (show 1 ≤ j by omega), decide_eq_true b1.symm, decide_eq_true b2.symm]; rfl
    · unfold repP; rw [decide_eq_true (show 1 ≤ i + 1 by omega), decide_eq_true (show p.getD (i + 1 - 1) 0 = p.getD i 0 from rfl), decide_eq_true rfl]; rfl
  have ev : pvF 0 ((p ++ z).take n) i = pvF 0 p i := by
    unfold pvF
    by_cases hi0 : i = 0
    · rw [if_pos hi0, if_pos hi0]
    · rw [if_neg hi0, if_neg hi0, et _ (by omega), eq _ (by omega)]
  refine (mem_wiresG _ _ _ _).2 ⟨i, by omega, by rw [et i hin, eq i (by omega)]; exact h0, ?_, by rw [ev, et i hin, eq i (by omega)]⟩
  rw [ev]
  rcases h1 with h1 | h1
  · exact .inl ⟨h1, rfl⟩
  · by_cases hi0 : i = 0
    · exact .inl ⟨hi0, rfl⟩
    · exact .inr (by unfold pvF; rw [if_neg hi0]; exact h1)
theorem cnt_se {l : List Rs} (hc : chkF l = 0) (w : Wr) : ((cntF l w 0).2 = 0 ∨ (cntF l w 0).2 = 8) ∧ (cntF l w 0).1.se = ((crsF l w true).length : Int) + (crsF l w false).length := by
  unfold cntF
  rw [if_neg (by omega), if_neg (fun h => h hc)]
  by_cases h : (crsF l w true).length + (crsF l w false).length = 0
  · rw [if_pos h]; refine ⟨.inr rfl, ?_⟩
    show (0 : Int) = _
    omega
  · rw [if_neg h]; exact ⟨.inl rfl, rfl⟩
theorem crs_mono {l : List Rs} {w v : Wr} (h : ∀ r ∈ l, w ∈ wayF l r → v ∈ wayF l r) (b : Bool) : (crsF l w b).length ≤ (crsF l v b).length := by
  unfold crsF
  rw [← List.countP_eq_length_filter, ← List.countP_eq_length_filter]
  refine List.countP_mono_left fun r hr hp => ?_
  rw [Bool.and_eq_true] at hp ⊢
  have hm : r ∈ l := (List.mem_filter.1 (((Yw ordR (l.filter okR)).2 r).1 hr)).1
  exact ⟨decide_eq_true (h r hm (of_decide_eq_true hp.1)), hp.2⟩
structure Flow (x : List Rs) (f : Int) (own : List Rs) : Prop where
  chk : chkF own = 0
  near : ∀ i, i + 1 < (pathF x f).length → (pathF x f).getD i 0 ≠ 0 → (i = 0 ∨ (pathF x f).getD (i - 1) 0 ≠ 0) → ¬ 1 < repC (pathF x f) ((pathF x f).getD i 0, (pathF x f).getD (i + 1) 0) (pathF x f).length →
    (cntF own ((pathF x f).getD i 0, (pathF x f).getD (i + 1) 0) 0).1.se ≤ (cntF own (pvF 0 (pathF x f) i, (pathF x f).getD i 0) 0).1.se
theorem flow_ok {x : List Rs} (hx : OneL true 24 x) (f : Int) : Flow x f (x.filter fun r => decide (r.fl = f)) := by
  obtain ⟨hlen, hok, ⟨t, htr⟩, hup, hpw⟩ := hx
  have hpw := pw_all (hpw rfl)
  have hpre := path_pre x f
  have hsub : ∀ r ∈ x.filter (fun r => decide (r.fl = f)), r ∈ x := fun r hr => (List.mem_filter.1 hr).1
  have hfl : ∀ r ∈ x.filter (fun r => decide (r.fl = f)), r.fl = f := fun r hr => of_decide_eq_true (List.mem_filter.1 hr).2
  have hup2 : Up cmpR (x.filter fun r => decide (r.fl = f)) := List.Pairwise.sublist List.filter_sublist hup
  have hl2 := List.length_filter_le (fun r : Rs => decide (r.fl = f)) x
  generalize x.filter (fun r => decide (r.fl = f)) = own at *
  have hok2 : ∀ r ∈ own, okR r = true := fun r hr => hok r (hsub r hr)
  have hc : chkF own = 0 := by
    unfold chkF
    rw [if_neg (by rw [List.any_eq_true]; rintro ⟨r, hr, h⟩; rw [hok2 r hr] at h; cases h), sd_same hup2 hok2, if_neg (by omega), if_pos (cons_all fun a ha b hb => hpw a (hsub a ha) b (hsub b hb))]
  refine ⟨hc, fun i h1 h2 h3 h4 => ?_⟩
  rw [(cnt_se hc _).2, (cnt_se hc _).2]
  have key : ∀ r ∈ own, ((pathF x f).getD i 0, (pathF x f).getD (i + 1) 0) ∈ wayF own r → (pvF 0 (pathF x f) i, (pathF x f).getD i 0) ∈ wayF own r := fun r hr hw => by
    obtain ⟨n, hn, e⟩ := wayF_pre hok2 (fun r hr => htr r (hsub r hr)) hup2 hfl hr
    rw [e] at hw ⊢
    exact near hpre hn h1 h2 h3 h4 hw
  have a := crs_mono key true
  have b := crs_mono key false
  omega
end Go.Proofs.YtlkdkbdgnjcopaaGreat
namespace Go.Proofs.YtlkdkbdgnjcopaaGreat
open Go.Own
theorem sNat : SlcT Tryz.prog 51 3 1 8 (.int .i64 0) := SlcT.of Tryz.underlying51 (by kernel_rfl) rfl (by decide)
theorem lNat : Ld1 Tryz.prog 51 := Ld1.of _ Tryz.underlying51 rfl
attribute [local irreducible] Go.Own.Fin Ok Ops St
theorem at_ok (xs : List Int) (i : Int) (hi : 0 ≤ i) : Ok Tryz.prog 178 [intsC xs, intC i] (intC (xs.getD i.toNat 0)) := by
  refine Ok.enter Tryz.func178 J _ Tryz.ntmps178 J ?_
  intro S w; refine Qw (Qx fun K hK => ?_); refine Qv J J J (Qj (hK _ _ ?_)); refine Qz (Qw (Qw (Qx fun K hK => ?_))); refine Qq J J J (Qq J J J (Qd J J sNat.und (List.length_map ..) J (Qk ilss J J J J (Qj (hK _ _ ?_))))); refine Qz (Q2 J (fun h => ?_) (fun h => ?_))
  · refine Qw (Qx fun K hK => ?_); refine Qq J J J (Qq J J J (Qg J J J sNat (by omega) (X5 (by omega) (by omega)) J ?_)); refine Xy J J J lInt J (Qv J J J (Qj (hK _ _ ?_))); refine Qz (Q0 (QY ?_)); refine QU [_] rfl (QQ J QX) J J
  · refine Q1 (Qz (Qw (Qx fun K hK => ?_))); refine Qv J J J (Qj (hK _ _ ?_)); refine Qz (Q0 ?_)
    have hx : xs.getD i.toNat 0 = 0 := by
      rw [List.getD_eq_getElem?_getD, List.getElem?_eq_none (by omega)]; rfl
    rw [hx]; refine QU [_] rfl (QQ J QX) J J
end Go.Proofs.YtlkdkbdgnjcopaaGreat
namespace Go.Proofs.YtlkdkbdgnjcopaaGreat
open Go.Own Go.Limbs
attribute [local irreducible] St Ops Go.Own.Fin Ok
theorem trim_ok (xs : List Int) (hl : xs.length < 4611686018427387904) : Ok Tryz.prog 173 [intsC xs] (intsC (trimL xs)) := by
  refine Ok.enter Tryz.func173 J _ Tryz.ntmps173 J ?_
  intro S w; refine Qw (Qx fun K hK => ?_); refine Qv J J J (Qj (hK _ _ ?_)); refine Qz (Qw (Q4 ?_))
  refine Xz (α := List Int) (fun ys => trimL ys = trimL xs ∧ ys.length ≤ xs.length) (fun ys => [(0, .ct (intsC ys))]) (fun _ => []) (fun ys => ys.length) xs ⟨rfl, Nat.le_refl _⟩ (Entails.sub ⟨rfl, trivial⟩) ?_
  intro ys ⟨hy, hle⟩; refine Qw (Qw (Qx fun K hK => ?_)); refine Qq J J J (Qd J J sNat.und (List.length_map ..) J (Qk igtr J J J J (Qq J J J (Q5 6 J (fun h => ?_) (fun h => ?_)))))
  · refine Qq J J J (Qq J J J (Qd J J sNat.und (List.length_map ..) J (Qk (isub (by omega) (by omega)) J J J J ?_)))
    refine Qg J J J sNat (by omega) (X5 (by omega) (by omega)) J ?_
    refine Xy J J J lInt J (Qk ieql J J J J (QZ J J J J (Qj (hK _ _ ?_))))
    refine Qz ?_
    have e1 : ((ys.length : Int) - 1).toNat = ys.length - 1 := by omega
    refine Q2 J (fun h2 => ?_) (fun h2 => ?_)
    · rw [e1] at h2; refine Q1 (Qz (Q4 (Qx fun K hK => ?_))); refine Qq J J J (Qq J J J (Qd J J sNat.und (List.length_map ..) J (Qk (isub (by omega) (by omega)) J J J J ?_)))
      refine Ops.cutHi J J J sNat (by omega) (by simp) J ?_
      rw [← List.map_take]; refine Qv J J J (Qj (hK _ _ ?_)); refine Qb (Q3 ?_); refine Q7 (ys.take ((ys.length : Int) - 1).toNat) (by simp; omega) ⟨?_, by simp; omega⟩ (Entails.sub ⟨rfl, trivial⟩); rw [e1, ← hy]; exact trim_last (by omega) h2
    · rw [e1] at h2; refine Qn (Qz (Qw (Qx fun K hK => ?_))); refine Qq J J J (Qv J J J (Qj (hK _ _ ?_))); refine Qz (Q0 ?_); rw [← hy, trim_done (fun _ => h2)]; refine QU [_] rfl (QQ J QX) J J
  · refine Qy J J J (Qy J J J (Qy J J J (Qy J J J (Qy J J J (Qy J J J (Qy J J J (QK J J J J (Qj (hK _ _ ?_))))))))); refine Qz (Xx J (Qn (Qz (Qw (Qx fun K hK => ?_))))); refine Qq J J J (Qv J J J (Qj (hK _ _ ?_))); refine Qz (Q0 ?_); rw [← hy, trim_done (fun h3 => absurd h3 (by omega))]; refine QU [_] rfl (QQ J QX) J J
theorem gotrim : InGo Tryz.prog 173 := InGo.of Tryz.func173 (by kernel_rfl) (by kernel_rfl)
def resultC (xs : List Int) : CT := if (trimL xs).length > 256 then .fr (tupT [intsC [], intC 3]) else .fr (tupT [intsC (trimL xs), intC 0])
theorem result_ok (xs : List Int) (hl : xs.length ≤ 256) : Ok Tryz.prog 179 [intsC xs] (.fr (tupT [intsC (trimL xs), intC 0])) := by
  refine Ok.enter Tryz.func179 J _ Tryz.ntmps179 J ?_
  intro S w; refine Qw (Qx fun K hK => ?_); refine Qv J J J (Qv J J J (Qj (hK _ _ ?_))); refine Qz (Qw (Qw (Qx fun K hK => ?_))); refine Qq J J J (QW gotrim (trim_ok xs (by omega)) J J J J ?_); refine Qv J J J (Qj (hK _ _ ?_)); refine Qz (Qw (Qx fun K hK => ?_)); refine Qq J J J (Qd J J sNat.und (List.length_map ..) J (Qk igtr J J J J (Qj (hK _ _ ?_))))
  refine Qz ?_
  have := trim_len xs; refine Q2 J (fun h2 => ?_) (fun h2 => ?_)
  · omega
  · refine Q1 (Qz (Qw (Qx fun K hK => ?_))); refine Qq J J J (Qv J J J (Qv J J J (Qj (hK _ _ ?_)))); refine Qz (Q0 ?_); refine QU [_, _] rfl (QQ J (QQ J QX)) J J
end Go.Proofs.YtlkdkbdgnjcopaaGreat
namespace Go.Limbs
abbrev BB : Int := 1073741824
def val : List Int → Int
  | [] => 0
  | x :: xs => x + BB * val xs
def OKL (xs : List Int) : Prop := ∀ x ∈ xs, 0 ≤ x ∧ x < BB
theorem OKL.nil : OKL [] := fun _ h => by cases h
theorem OKL.cons {x : Int} {xs : List Int} (h : 0 ≤ x ∧ x < BB) (hs : OKL xs) : OKL (x :: xs) := fun y hy => by
  rcases List.mem_cons.1 hy with rfl | hy
  · exact h
  · exact hs y hy
theorem OKL.tail {x : Int} {xs : List Int} (h : OKL (x :: xs)) : OKL xs := fun y hy => h y (List.mem_cons_of_mem _ hy)
theorem OKL.head {x : Int} {xs : List Int} (h : OKL (x :: xs)) : 0 ≤ x ∧ x < BB := h x (List.mem_cons_self ..)
theorem OKL.append {xs ys : List Int} (h : OKL xs) (h' : OKL ys) : OKL (xs ++ ys) := fun y hy => by
  rcases List.mem_append.1 hy with hy | hy
  · exact h y hy
  · exact h' y hy
theorem OKL.zeros (n : Nat) : OKL (List.replicate n 0) := fun y hy => by rw [List.eq_of_mem_replicate hy]; decide
theorem OKL.set {xs : List Int} (h : OKL xs) (i : Nat) {x : Int} (hx : 0 ≤ x ∧ x < BB) : OKL (xs.set i x) := fun y hy => by
  rcases List.mem_or_eq_of_mem_set hy with hy | rfl
  · exact h y hy
  · exact hx
theorem OKL.get {xs : List Int} (h : OKL xs) (i : Nat) : 0 ≤ xs.getD i 0 ∧ xs.getD i 0 < BB := by
  rw [List.getD_eq_getElem?_getD]
  cases e : xs[i]? with
  | none => decide
  | some x => exact h x (List.mem_of_getElem? e)
theorem val_nonneg {xs : List Int} (h : OKL xs) : 0 ≤ val xs := by
  induction xs with
  | nil => decide
  | cons x xs ih => have := ih h.tail; have := h.head; simp only [val, BB] at *; omega
theorem val_append (xs ys : List Int) : val (xs ++ ys) = val xs + BB ^ xs.length * val ys := by
  induction xs with
  | nil => simp [val]
  | cons x xs ih => simp only [List.cons_append, val, ih, List.length_cons]; grind
theorem val_zeros (n : Nat) : val (List.replicate n 0) = 0 := by
  induction n with
  | zero => rfl
  | succ n ih => simp [List.replicate_succ, val, ih]
theorem val_trim (xs : List Int) : val (trimL xs) = val xs := by
  induction xs with
  | nil => rfl
  | cons x xs ih =>
    simp only [trimL]; split
    · rename_i e
      rw [e] at ih; simp only [val] at ih ⊢; split
      · rename_i e0; subst e0; simp [val, ← ih]
      · simp [val, ← ih]
    · rename_i y ys e; rw [e] at ih; simp only [val] at ih ⊢; rw [ih]
theorem OKL.trim {xs : List Int} (h : OKL xs) : OKL (trimL xs) := by
  induction xs with
  | nil => exact h
  | cons x xs ih =>
    simp only [trimL]; split
    · split
      · exact OKL.nil
      · exact OKL.cons h.head OKL.nil
    · rename_i y ys e
      have := ih h.tail; rw [e] at this; exact OKL.cons h.head this
def limbs (n : Nat) : List Int := if h : n = 0 then [] else ((n % 1073741824 : Nat) : Int) :: limbs (n / 1073741824)
termination_by n
decreasing_by exact Nat.div_lt_self (by omega) (by decide)
theorem limbs_zero : limbs 0 = [] := by unfold limbs; rfl
theorem limbs_pos {n : Nat} (h : n ≠ 0) : limbs n = ((n % 1073741824 : Nat) : Int) :: limbs (n / 1073741824) := by rw [limbs]; simp [h]
theorem Xm (n : Nat) : OKL (limbs n) := by
  induction n using Nat.strongRecOn with
  | ind n ih =>
    by_cases h : n = 0
    · subst h; rw [limbs_zero]; exact OKL.nil
    · rw [limbs_pos h]; refine OKL.cons (by simp only [BB]; omega) (ih _ (Nat.div_lt_self (by omega) (by decide)))
theorem ZW (n : Nat) : val (limbs n) = n := by
  induction n using Nat.strongRecOn with
  | ind n ih =>
    by_cases h : n = 0
    · subst h; rw [limbs_zero]; rfl
    · rw [limbs_pos h, val, ih _ (Nat.div_lt_self (by omega) (by decide))]; simp only [BB]; omega
theorem Yz {n : Nat} (h : limbs n = []) : n = 0 := by
  by_cases h0 : n = 0
  · exact h0
  · rw [limbs_pos h0] at h; cases h
theorem limbs_val {xs : List Int} (h : OKL xs) (ht : trimL xs = xs) : xs = limbs (val xs).toNat := by
  induction xs with
  | nil => simp [val, limbs_zero]
  | cons x xs ih =>
    have hx := h.head; have hv := val_nonneg h.tail
    have ht2 : trimL xs = xs ∧ ¬ (xs = [] ∧ x = 0) := by
      simp only [trimL] at ht; split at ht
      · rename_i e
        split at ht
        · cases ht
        · rename_i hne; injection ht with _ h2; subst h2; exact ⟨e, fun h => hne h.2⟩
      · rename_i y ys e; injection ht with _ h2; rw [e, h2]; exact ⟨rfl, fun h => by rw [h.1] at h2; cases h2⟩
    have ih2 := ih h.tail ht2.1
    have hne : (val (x :: xs)).toNat ≠ 0 := by
      intro h0; simp only [val, BB] at h0
      have hx0 : x = 0 := by simp only [BB] at hx; omega
      have hv0 : val xs = 0 := by omega
      rw [hv0] at ih2; exact ht2.2 ⟨by rw [ih2]; exact limbs_zero, hx0⟩
    rw [limbs_pos hne]; simp only [val, BB] at *
    congr 1
    · omega
    · rw [ih2]; congr 1; rw [← ih2]; omega
theorem trim_trim (xs : List Int) : trimL (trimL xs) = trimL xs := by
  induction xs with
  | nil => rfl
  | cons x xs ih =>
    simp only [trimL]; split
    · split
      · rfl
      · rename_i h; simp [trimL, h]
    · rename_i y ys e; rw [e] at ih; rw [trimL, ih]
theorem Z3 {xs : List Int} (h : OKL xs) : trimL xs = limbs (val xs).toNat := by
  have := limbs_val h.trim (trim_trim xs)
  rwa [val_trim] at this
theorem trim_of_limbs (n : Nat) : trimL (limbs n) = limbs n := by rw [Z3 (Xm n), ZW]; simp
def pre (xs : List Int) (i : Nat) : Int := val (xs.take i)
theorem Z8 (xs : List Int) : pre xs 0 = 0 := by simp [pre, val]
theorem Zj (xs : List Int) (i : Nat) : pre xs (i + 1) = pre xs i + xs.getD i 0 * BB ^ i := by
  unfold pre; by_cases h : i < xs.length
  · rw [List.take_succ_eq_append_getElem h, val_append]
    have hl : (xs.take i).length = i := by simp; omega
    rw [hl]; simp [val, List.getD_eq_getElem?_getD, List.getElem?_eq_getElem h]; grind
  · rw [List.take_of_length_le (by omega), List.take_of_length_le (by omega), List.getD_eq_getElem?_getD, List.getElem?_eq_none (by omega)]; simp
theorem Yx {xs : List Int} {i : Nat} (h : xs.length ≤ i) : pre xs i = val xs := by unfold pre; rw [List.take_of_length_le h]
theorem set_snoc {zs : List Int} {n : Nat} (x : Int) : (zs ++ List.replicate (n + 1) 0).set zs.length x = (zs ++ [x]) ++ List.replicate n 0 := by
  rw [List.set_append_right _ _ (Nat.le_refl _)]; simp [List.replicate_succ]
theorem XJ {n k : Nat} (h : n < 1073741824 ^ k) : (limbs n).length ≤ k := by
  induction k generalizing n with
  | zero => have : n = 0 := by omega
            subst this; simp [limbs_zero]
  | succ k ih =>
    by_cases h0 : n = 0
    · subst h0; simp [limbs_zero]
    · rw [limbs_pos h0]
      have : n / 1073741824 < 1073741824 ^ k := by rw [Nat.div_lt_iff_lt_mul (by decide)]; rw [Nat.pow_succ] at h; exact h
      have := ih this; simp; omega
theorem Xd {n k : Nat} (h : (limbs n).length ≤ k) : n < 1073741824 ^ k := by
  induction k generalizing n with
  | zero =>
    have : limbs n = [] := List.eq_nil_of_length_eq_zero (by omega); have := Yz this; subst this; decide
  | succ k ih =>
    by_cases h0 : n = 0
    · subst h0; exact Nat.pow_pos (by decide)
    · rw [limbs_pos h0] at h; have := ih (n := n / 1073741824) (by simpa using h); rw [Nat.div_lt_iff_lt_mul (by decide)] at this; rw [Nat.pow_succ]; exact this
end Go.Limbs
namespace Go.Proofs.YtlkdkbdgnjcopaaGreat
open Go.Own Go.Limbs
attribute [local irreducible] St Ops Go.Own.Fin Ok
theorem goat : InGo Tryz.prog 178 := InGo.of Tryz.func178 (by kernel_rfl) (by kernel_rfl)
theorem goresult : InGo Tryz.prog 179 := InGo.of Tryz.func179 (by kernel_rfl) (by kernel_rfl)
abbrev natC (n : Nat) : CT := intsC (limbs n)
theorem Add_list (xs ys : List Int) (hx : xs.length ≤ 200) (hy : ys.length ≤ 200) (bx : OKL xs) (by' : OKL ys) :
    Ok Tryz.prog 140 [intsC xs, intsC ys] (.fr (tupT [natC (val xs + val ys).toNat, intC 0])) := by
  refine Ok.enter Tryz.func140 J _ Tryz.ntmps140 J ?_
  intro S w; refine Qw (Qx fun K hK => ?_); refine Qv J J J (Qv J J J (Qj (hK _ _ ?_))); refine Qz (Qw (Qx fun K hK => ?_)); refine Qq J J J (Qd J J sNat.und (List.length_map ..) J (Qq J J J (Qd J J sNat.und (List.length_map ..) J (Ops.max2 J J J J (Qv J J J (Qj (hK _ _ ?_))))))); refine Qz (Qw (Qx fun K hK => ?_)); refine Qq J J J (Qk (iadd (by omega) (by omega)) J J J J ?_)
  refine Ops.make 0 (max xs.length ys.length + 1) J J J (by omega) sNat (by omega) (by omega) J J J ?_
  rw [ints_made]; refine Qv J J J (Qj (hK _ _ ?_)); refine Qz (Qw (Qx fun K hK => ?_)); refine Qv J J J (Qj (hK _ _ ?_)); refine Qz (Qw (Qw (Qx fun K hK => ?_))); refine Qq J J J (Qq J J J (Qj (hK _ _ ?_))); refine Qz (Q4 ?_)
  refine Xz (α := Nat × List Int × Int) (fun s => s.1 ≤ max xs.length ys.length ∧ s.2.1.length = s.1 ∧ OKL s.2.1 ∧ 0 ≤ s.2.2 ∧ s.2.2 ≤ 1 ∧ val s.2.1 + s.2.2 * BB ^ s.1 = pre xs s.1 + pre ys s.1)
    (fun s => [(0, .ct (intsC xs)), (1, .ct (intsC ys)), (6, .ct (intC (max ↑xs.length ↑ys.length))), (7, .own 0), (8, .ct (intC s.2.2)), (19, .ct (intC (max ↑xs.length ↑ys.length))), (20, .ct (intC s.1))])
    (fun s => [(0, .row 3 1 (ints (s.2.1 ++ List.replicate (max xs.length ys.length + 1 - s.1) 0)))])
    (fun s => max xs.length ys.length - s.1) (0, [], 0) ⟨Nat.zero_le _, rfl, OKL.nil, by decide, by decide, by simp [val, Z8]⟩ (by exact Qu J ⟨rfl, rfl, rfl, rfl, rfl, rfl, rfl, trivial⟩) ?_
  rintro ⟨i, zs, c⟩ ⟨hi, hz, hok, hc0, hc1, hv⟩
  dsimp only at hi hz hok hc0 hc1 hv ⊢; refine Qw (Qx fun K hK => ?_); refine Qk ilss J J J J (Qj (hK _ _ ?_)); refine Qz (Qw ?_); refine Q2 J (fun h => ?_) (fun h => ?_)
  · have b1 := bx.get i
    have b2 := by'.get i
    simp only [BB] at b1 b2; refine Q1 (Qz (Qw (Q4 (Qw (Qx fun K hK => ?_))))); refine Qq J J J (Qv J J J (Qj (hK _ _ ?_))); refine Qz (Qw (Qx fun K hK => ?_)); refine Qq J J J (Qq J J J (QW goat (at_ok xs i (by omega)) J J J J ?_)); refine Qq J J J (Qq J J J (QW goat (at_ok ys i (by omega)) J J J J ?_)); rw [Int.toNat_natCast]
    refine Qk (iadd (by omega) (by omega)) J J J J ?_
    refine Qq J J J (Qk (iadd (by omega) (by omega)) J J J J ?_); refine Qv J J J (Qj (hK _ _ ?_)); refine Qz (Qx fun K hK => ?_); refine Qq J J J (Qq J J J (Qq J J J (Qk iand30 J J J J (Qq J J J (Qk ishr30 J J J J (Xi (max xs.length ys.length + 1) J J J (by simp; omega) J sNat (by omega) (by omega) J ?_))))))
    refine Xh J J J J J zInt (by simp [Ent.cs]; omega) ?_
    simp only [Ent.setc, ints_set]; refine Qv J J J (Qj (hK _ _ ?_)); refine Qz (Qx fun K hK => ?_)
    refine Qk (iadd (by omega) (by omega)) J J J J ?_
    refine Qq J J J (Qj (hK _ _ ?_)); refine Q3 (Q7 (i + 1, zs ++ [(xs.getD i 0 + ys.getD i 0 + c) % 1073741824], (xs.getD i 0 + ys.getD i 0 + c) / 1073741824) (by dsimp only; omega) ⟨by dsimp only; omega, by simp [hz], ?_, ?_, ?_, ?_⟩ ?_)
    all_goals dsimp only
    · exact hok.append (OKL.cons (by simp only [BB]; omega) OKL.nil)
    · omega
    · omega
    · rw [val_append, hz, Zj, Zj]; have e := Int.mul_ediv_add_emod (xs.getD i 0 + ys.getD i 0 + c) 1073741824; simp only [val, BB] at *; generalize (xs.getD i 0 + ys.getD i 0 + c) / 1073741824 = q at *; generalize (xs.getD i 0 + ys.getD i 0 + c) % 1073741824 = m at *
      grind
    · refine Qu ?_ ⟨rfl, rfl, rfl, rfl, rfl, rfl, by simp only [Int.natCast_add]; rfl, trivial⟩
      have e1 : max xs.length ys.length + 1 - i = (max xs.length ys.length - i) + 1 := by omega
      have e2 : max xs.length ys.length + 1 - (i + 1) = max xs.length ys.length - i := by omega
      have e3 : (i : Int).toNat * 1 = zs.length := by omega
      rw [e1, e2, e3, set_snoc]; rfl
  · refine Qn (Qz (Qw (Qx fun K hK => ?_))); refine Qq J J J (Qq J J J (Qq J J J ?_))
    have hi' : i = max xs.length ys.length := by omega
    have e1 : max xs.length ys.length + 1 - i = 0 + 1 := by omega
    refine Xi (max xs.length ys.length + 1) J J J (by simp; omega) J sNat (by omega) (by omega) J ?_
    refine Xh J J J J J zInt (by simp [Ent.cs]; omega) ?_
    simp only [Ent.setc, ints_set]
    have e3 : (max (xs.length : Int) ys.length).toNat * 1 = zs.length := by omega
    rw [e3, e1, set_snoc]; refine Qj (hK _ _ ?_); refine Qz (Qw (Qx fun K hK => ?_)); refine Qq J J J (ZJ 0 _ J (Zk _ _) X7 (QW goresult (result_ok _ (by simp; omega)) J J J J ?_))
    have e4 : trimL (zs ++ [c] ++ List.replicate 0 0) = limbs (val xs + val ys).toNat := by
      have h1 : OKL (zs ++ [c]) := hok.append (OKL.cons (by simp only [BB]; omega) OKL.nil); simp only [List.replicate_zero, List.append_nil]; rw [Z3 h1, val_append, hz]; rw [Yx (by omega), Yx (by omega)] at hv
      congr 2
      simp only [val]; grind
    rw [e4]; refine Qf J J J J (Qf J J J J (Qv J J J (Qv J J J (Qj (hK _ _ ?_))))); refine Qz (Q0 ?_); refine QU [_, _] rfl (QQ J (QQ J QX)) J J
end Go.Proofs.YtlkdkbdgnjcopaaGreat
namespace Go.Limbs
def cmpI (a b : Int) : Int := if a < b then -1 else if b < a then 1 else 0
theorem cmpI_neg {a b : Int} : cmpI a b < 0 ↔ a < b := by unfold cmpI; split <;> (try split) <;> omega
theorem Xn (a b : Int) : cmpI a b = if a < b then -1 else if b < a then 1 else 0 := rfl
theorem pre_bd {xs : List Int} (h : OKL xs) (i : Nat) : 0 ≤ pre xs i ∧ pre xs i < BB ^ i := by
  induction i with
  | zero => rw [Z8]; simp
  | succ i ih =>
    rw [Zj]; have := h.get i; have hp : 0 < BB ^ i := Int.pow_pos (by decide); obtain ⟨h1, h2⟩ := this; refine ⟨?_, ?_⟩
    · have := Int.mul_nonneg h1 (Int.le_of_lt hp); omega
    · have h3 : xs.getD i 0 * BB ^ i ≤ (BB - 1) * BB ^ i := Int.mul_le_mul_of_nonneg_right (by omega) (Int.le_of_lt hp)
      have h4 : BB ^ (i + 1) = BB * BB ^ i := by rw [Int.pow_succ, Int.mul_comm]
      rw [h4]
      have h5 : (BB - 1) * BB ^ i = BB * BB ^ i - BB ^ i := by rw [Int.sub_mul, Int.one_mul]
      omega
theorem pre_decides {xs ys : List Int} (hx : OKL xs) (hy : OKL ys) {k : Nat} (h : xs.getD k 0 < ys.getD k 0) : pre xs (k + 1) < pre ys (k + 1) := by
  rw [Zj, Zj]; have h1 := pre_bd hx k; have h2 := pre_bd hy k; have hp : 0 < BB ^ k := Int.pow_pos (by decide); have h3 : (xs.getD k 0 + 1) * BB ^ k ≤ ys.getD k 0 * BB ^ k := Int.mul_le_mul_of_nonneg_right (by omega) (Int.le_of_lt hp); rw [Int.add_mul, Int.one_mul] at h3; omega
theorem Xc {a b : Nat} (h : a ≤ b) : (limbs a).length ≤ (limbs b).length := XJ (Nat.lt_of_le_of_lt h (Xd (Nat.le_refl _)))
theorem lt_of_len {a b : Nat} (h : (limbs a).length < (limbs b).length) : a < b := by
  rcases Nat.lt_or_ge a b with h1 | h1
  · exact h1
  · have := Xc h1; omega
theorem val_eq_pre (n : Nat) : pre (limbs n) (limbs n).length = n := by rw [Yx (Nat.le_refl _), ZW]
def validL (xs : List Int) : Bool := xs.all (fun x => decide (0 ≤ x) && decide (x < BB)) && decide (xs.length ≤ 256) && (decide (xs.length = 0) || decide (xs.getD (xs.length - 1) 0 ≠ 0))
end Go.Limbs
namespace Go.Proofs.YtlkdkbdgnjcopaaGreat
open Go.Own Go.Limbs
attribute [local irreducible] St Ops Go.Own.Fin Ok
theorem isNaN_ok (x : Int) : Ok Tryz.prog 160 [intC x] (boolC false) := by
  refine Ok.enter Tryz.func160 J _ Tryz.ntmps160 J ?_
  intro S w; refine Qw (Qx fun K hK => ?_); refine Qv J J J (Qj (hK _ _ ?_)); refine Qz (Qw (Qx fun K hK => ?_)); refine Qq J J J (Qq J J J (Qk ineq J J J J (Qv J J J (Qj (hK _ _ ?_))))); refine Qz (Q0 ?_)
  have : decide (x ≠ x) = false := by simp
  rw [this]; refine QU [_] rfl (QQ J QX) J J
theorem goisNaN : InGo Tryz.prog 160 := InGo.of Tryz.func160 (by kernel_rfl) (by kernel_rfl)
theorem cmp_ok (x y : Int) : Ok Tryz.prog 124 [intC x, intC y] (intC (cmpI x y)) := by
  refine Ok.enter Tryz.func124 J _ Tryz.ntmps124 J ?_
  intro S w; refine Qw (Qx fun K hK => ?_); refine Qv J J J (Qj (hK _ _ ?_)); refine Qz (Qw (Qx fun K hK => ?_)); refine Qq J J J (QW goisNaN (isNaN_ok x) J J J J (Qv J J J (Qj (hK _ _ ?_)))); refine Qz (Qw (Qx fun K hK => ?_)); refine Qq J J J (QW goisNaN (isNaN_ok y) J J J J (Qv J J J (Qj (hK _ _ ?_)))); refine Qz (Qw (Qw (Qx fun K hK => ?_))); refine Qq J J J (Qj (hK _ _ ?_)); refine Qz (Xx J (Q1 (Qz (Qw (Qw (Qx fun K hK => ?_)))))); refine Qq J J J (Qj (hK _ _ ?_)); refine Qz (Xx J (Q1 (Qz (Qw (Qw (Qx fun K hK => ?_)))))); refine Qq J J J (Qq J J J (Qk ilss J J J J (Qj (hK _ _ ?_)))); refine Qz (Q2 J (fun h => ?_) (fun h => ?_))
  · refine Qw (Qx fun K hK => ?_); refine Qv J J J (Qj (hK _ _ ?_)); refine Qz (Q0 (QY ?_)); rw [Xn, if_pos h]; refine QU [_] rfl (QQ J QX) J J
  · refine Q1 (Qz (Qw (Qw (Qx fun K hK => ?_)))); refine Qq J J J (Qq J J J (Qk igtr J J J J (Qj (hK _ _ ?_)))); refine Qz (Q2 J (fun h2 => ?_) (fun h2 => ?_))
    · refine Qw (Qx fun K hK => ?_); refine Qv J J J (Qj (hK _ _ ?_)); refine Qz (Q0 (QY ?_)); rw [Xn, if_neg h, if_pos h2]; refine QU [_] rfl (QQ J QX) J J
    · refine Q1 (Qz (Qw (Qx fun K hK => ?_))); refine Qv J J J (Qj (hK _ _ ?_)); refine Qz (Q0 ?_); rw [Xn, if_neg h, if_neg h2]; refine QU [_] rfl (QQ J QX) J J
theorem gocmp : InGo Tryz.prog 124 := InGo.of Tryz.func124 (by kernel_rfl) (by kernel_rfl)
set_option maxHeartbeats 2000000 in
theorem Compare_ok (a b : Nat) (ha : (limbs a).length < 4611686018427387904) (hb : (limbs b).length < 4611686018427387904) : Ok Tryz.prog 174 [natC a, natC b] (intC (cmpI a b)) := by
  refine Ok.enter Tryz.func174 J _ Tryz.ntmps174 J ?_
  intro S w; refine Qw (Qx fun K hK => ?_); refine Qv J J J (Qj (hK _ _ ?_)); refine Qz (Qw (Qw (Qx fun K hK => ?_))); refine Qq J J J (Qd J J sNat.und (List.length_map ..) J (Qq J J J (Qd J J sNat.und (List.length_map ..) J (QW gocmp (cmp_ok _ _) J J J J (Qv J J J (Qj (hK _ _ ?_))))))); refine Qz (Qw (Qx fun K hK => ?_)); refine Qq J J J (Qk ineq J J J J (Qj (hK _ _ ?_))); refine Qz (Q2 J (fun h => ?_) (fun h => ?_))
  · refine Qw (Qx fun K hK => ?_); refine Qq J J J (Qv J J J (Qj (hK _ _ ?_))); refine Qz (Q0 (QY ?_))
    have e : cmpI ((limbs a).length : Int) ((limbs b).length : Int) = cmpI (a : Int) (b : Int) := by
      rcases Nat.lt_trichotomy (limbs a).length (limbs b).length with h1 | h1 | h1
      · have := lt_of_len h1; rw [Xn, Xn, if_pos (by omega), if_pos (by omega)]
      · rw [h1] at h; simp [cmpI] at h
      · have := lt_of_len h1; rw [Xn, Xn, if_neg (by omega), if_pos (by omega), if_neg (by omega), if_pos (by omega)]
    rw [e]; refine QU [_] rfl (QQ J QX) J J
  · have hl : (limbs a).length = (limbs b).length := by
      simp only [ne_eq, Classical.not_not] at h; unfold cmpI at h; split at h
      · cases h
      · split at h
        · cases h
        · omega
    clear h; refine Q1 (Qz (Qw (Qw (Qx fun K hK => ?_)))); refine Qq J J J (Qd J J sNat.und (List.length_map ..) J (Qk (isub (by omega) (by omega)) J J J J ?_)); refine Qv J J J (Qj (hK _ _ ?_)); refine Qz (Q4 ?_)
    refine Xz (α := Nat) (fun k => k ≤ (limbs a).length ∧ pre (limbs a) k - pre (limbs b) k = (a : Int) - b)
      (fun k => [(0, .ct (natC a)), (1, .ct (natC b)), (6, .ct (intC ((k : Int) - 1)))]) (fun _ => []) (fun k => k) (limbs a).length ⟨Nat.le_refl _, ?_⟩ (by exact Qu J ⟨rfl, rfl, rfl, trivial⟩) ?_
    · have e1 := val_eq_pre a; have e2 := val_eq_pre b; rw [← hl] at e2; rw [e1, e2]
    intro k ⟨hk, hv⟩; dsimp only; refine Qw (Qw (Qx fun K hK => ?_)); refine Qq J J J (Qk igeq J J J J (Qj (hK _ _ ?_))); refine Qz (Q2 J (fun h => ?_) (fun h => ?_))
    · obtain ⟨q, rfl⟩ : ∃ q, k = q + 1 := ⟨k - 1, by omega⟩
      have e1 : (((q + 1 : Nat) : Int) - 1) = (q : Int) := by omega
      have e2 : (q : Int).toNat = q := Int.toNat_natCast q; rw [e1]; refine Q1 (Qz (Qw (Q4 (Qw ?_)))); refine Xu mixed 9 (.p 0 (.p 1 (.p 2 (.p 4 (.p 5 (.p 6 (.f 3 (.f 7 (.p 8 .done))))))))) (by kernel_rfl) (fun K hK => ?_); refine Qq J J J (Qq J J J (Qg J J J sNat (by omega) (X5 (by omega) (by omega)) J ?_)); refine Qq J J J (Qq J J J (Qg J J J sNat (by omega) (X5 (by omega) (by omega)) J ?_)); refine Xy J J J lInt J (Xy J J J lInt J (Qk ineq J J J J (Qj (hK _ _ ?_)))); refine Qz (Q2 J (fun h2 => ?_) (fun h2 => ?_))
      · refine Qw (Xu mixed 10 (.p 0 (.p 1 (.p 2 (.p 4 (.p 5 (.p 6 (.f 3 (.f 7 (.m 8 (.p 9 .done)))))))))) (by kernel_rfl) (fun K hK => ?_)); refine Qq J J J (Qq J J J (Qg J J J sNat (by omega) (X5 (by omega) (by omega)) J ?_)); refine Qq J J J (Qq J J J (Qg J J J sNat (by omega) (X5 (by omega) (by omega)) J ?_)); refine Xy J J J lInt J (Xy J J J lInt J (QW gocmp (cmp_ok _ _) J J J J ?_)); rw [e2] at h2 ⊢
        have e : cmpI ((limbs a).getD q 0) ((limbs b).getD q 0) = cmpI (a : Int) (b : Int) := by
          rcases Int.lt_or_gt_of_ne h2 with h3 | h3
          · have := pre_decides (Xm a) (Xm b) h3; rw [Xn, Xn, if_pos h3, if_pos (by omega)]
          · have := pre_decides (Xm b) (Xm a) h3; rw [Xn, Xn, if_neg (by omega), if_pos h3, if_neg (by omega), if_pos (by omega)]
        rw [e]; refine Qv J J J (Qj (hK _ _ ?_)); refine Qz (Q0 (Q8 (QY (QY (Q8 (QY ?_)))))); refine QU [_] rfl (QQ J QX) J J
      · rw [e2] at h2; refine Q1 (Qz (Qx fun K hK => ?_)); refine Qq J J J (Qk (isub (by omega) (by omega)) J J J J ?_); refine Qv J J J (Qj (hK _ _ ?_)); refine Q3 (Q7 q (by omega) ⟨by omega, ?_⟩ (by exact Qu J ⟨rfl, rfl, rfl, trivial⟩)); rw [Zj, Zj] at hv; have : (limbs a).getD q 0 = (limbs b).getD q 0 := Classical.not_not.1 h2; rw [this] at hv; omega
    · refine Qn (Qz (Qw (Qx fun K hK => ?_))); refine Qv J J J (Qj (hK _ _ ?_)); refine Qz (Q0 ?_)
      have hk0 : k = 0 := by omega
      subst hk0; rw [Z8, Z8] at hv; rw [Xn, if_neg (by omega), if_neg (by omega)]; refine QU [_] rfl (QQ J QX) J J
theorem goCompare : InGo Tryz.prog 174 := InGo.of Tryz.func174 (by kernel_rfl) (by kernel_rfl)
set_option maxHeartbeats 2000000 in
theorem From_ok (n : Nat) (hn : n < 9223372036854775808) : Ok Tryz.prog 139 [intC n] (.fr (tupT [natC n, intC 0])) := by
  refine Ok.enter Tryz.func139 rfl _ Tryz.ntmps139 rfl ?_
  intro S w
  (refine Qw (Qx fun K hK => ?_); refine Qv rfl rfl rfl ?_; refine Qv rfl rfl rfl ?_; refine Qj (hK _ _ ?_); refine Qz (Qw (Qw (Qx fun K hK => ?_))); refine Qq rfl rfl rfl ?_; refine Qk ilss rfl rfl rfl rfl ?_; refine Qj (hK _ _ ?_); refine Qz (Xx rfl (Q1 (Qz (Qw (Qx fun K hK => ?_))))); refine Qv rfl rfl rfl ?_; refine Qj (hK _ _ ?_); refine Qz (Qw (Q4 ?_)))
  refine Xf 4 0 3 1 rfl rfl rfl ?_
  refine Xz (α := Nat × List Int) (fun s => s.1 ≤ n ∧ limbs n = s.2 ++ limbs s.1)
    (fun s => [(0, .ct (intC s.1)), (4, .own 0)]) (fun s => [(0, .row 3 1 (ints s.2))]) (fun s => s.1) (n, []) ⟨Nat.le_refl _, rfl⟩ (by exact Qu rfl ⟨rfl, rfl, trivial⟩) ?_
  rintro ⟨m, zs⟩ ⟨hm, hv⟩
  dsimp only at hm hv ⊢
  have hl : zs.length ≤ 64 := by
    have h1 := congrArg List.length hv
    have h2 := XJ (n := n) (k := 3) (by omega)
    simp at h1; omega
  (refine Qw (Qw (Qx fun K hK => ?_)); refine Qq rfl rfl rfl ?_; refine Qk igtr rfl rfl rfl rfl ?_; refine Qj (hK _ _ ?_); refine Qz ?_)
  refine Q2 rfl (fun h => ?_) (fun h => ?_)
  · (refine Q1 (Qz (Qw (Q4 (Qx fun K hK => ?_)))); refine Qq rfl rfl rfl ?_; refine Qq rfl rfl rfl ?_; refine Qk iand30 rfl rfl rfl rfl ?_)
    refine Xp rfl rfl sNat rfl rfl rfl ?_
    refine Qs zs.length (ints (zs ++ [(m : Int) % 1073741824])) rfl rfl rfl rfl sNat (by simp) rfl (by omega) (by omega) (by simp [ints]) rfl ?_
    (refine Qv rfl rfl rfl ?_; refine Qj (hK _ _ ?_); refine Qz (Qx fun K hK => ?_); refine Qq rfl rfl rfl ?_; refine Qk ishr30 rfl rfl rfl rfl ?_; refine Qv rfl rfl rfl ?_; refine Qj (hK _ _ ?_); refine Q3 ?_)
    refine Q7 (m / 1073741824, zs ++ [(m : Int) % 1073741824]) (by dsimp only; omega) ⟨by dsimp only; omega, ?_⟩ ?_
    all_goals dsimp only
    · rw [hv, limbs_pos (n := m) (by omega)]; simp
    · exact Qu rfl ⟨by rw [Int.natCast_ediv]; rfl, rfl, trivial⟩
  · have : m = 0 := by omega
    subst this
    rw [limbs_zero, List.append_nil] at hv
    subst hv
    refine Yq 0 _ rfl (Zk _ _) X7 ?_
    (refine Qn (Qz (Qw (Qx fun K hK => ?_))); refine Qq rfl rfl rfl ?_; refine Qv rfl rfl rfl ?_; refine Qv rfl rfl rfl ?_; refine Qj (hK _ _ ?_); refine Qz (Q0 ?_))
    refine QU [_, _] rfl (QQ rfl (QQ rfl QX)) rfl rfl
theorem goFrom : InGo Tryz.prog 139 := InGo.of Tryz.func139 (by kernel_rfl) (by kernel_rfl)
end Go.Proofs.YtlkdkbdgnjcopaaGreat
namespace Go.Limbs
theorem val_set {xs : List Int} {p : Nat} (h : p < xs.length) (v : Int) : val (xs.set p v) = val xs + (v - xs.getD p 0) * BB ^ p := by
  induction xs generalizing p with
  | nil => simp at h
  | cons x xs ih =>
    cases p with
    | zero => simp [val]; omega
    | succ p =>
      have := ih (p := p) (by simpa using h); simp only [List.set_cons_succ, val, this, List.getD_cons_succ, Int.pow_succ]
      grind
theorem getD_set {xs : List Int} {p j : Nat} (h : p < xs.length) (v : Int) : (xs.set p v).getD j 0 = if p = j then v else xs.getD j 0 := by
  simp only [List.getD_eq_getElem?_getD, List.getElem?_set]; by_cases hp : p = j
  · subst hp; simp [h]
  · simp [hp]
theorem mul_bd {x y : Int} (hx : 0 ≤ x ∧ x < BB) (hy : 0 ≤ y ∧ y < BB) : 0 ≤ x * y ∧ x * y ≤ 1152921502459363329 := by
  simp only [BB] at hx hy; refine ⟨Int.mul_nonneg hx.1 hy.1, ?_⟩; have h1 : x * y ≤ 1073741823 * 1073741823 := Int.mul_le_mul (by omega) (by omega) hy.1 (by omega); omega
theorem limbs_mul_len {a b : Nat} : (limbs (a * b)).length ≤ (limbs a).length + (limbs b).length := by
  apply XJ
  rw [Nat.pow_add]; exact Nat.mul_lt_mul'' (Xd (Nat.le_refl _)) (Xd (Nat.le_refl _))
end Go.Limbs
