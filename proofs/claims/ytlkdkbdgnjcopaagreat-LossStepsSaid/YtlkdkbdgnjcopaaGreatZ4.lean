/- The proof that LossSteps holds for every input, without conditions: part 4 of 6. -/
import Derived.Test.YtlkdkbdgnjcopaaGreatZ3
import Derived.Sort.MapsRangeIn
import Derived.RangeFuncGives
import Derived.Maps.AppendAt
import Derived.TacticsInMore
import Derived.RegionIn
import Derived.LoopNIn
import Derived.LoopIn
namespace Go.Proofs.YtlkdkbdgnjcopaaGreat
open Go.Own Go.Limbs
attribute [local irreducible] Go.Own.Fin Ok OkB OkF OkL OkM OkN OkT Ops St
def crR (l : List Rs) (r : Rs) (w : Wr) : Bool :=
  (wyR l r).2 && (decide (w.2 ≠ 0) && (if w.1 = 0 then decide (0 < (wyR l r).1.length ∧ (wyR l r).1.getD 0 0 = w.2)
    else decide (∃ i, i < (wyR l r).1.length ∧ 1 ≤ i ∧ (wyR l r).1.getD (i - 1) 0 = w.1 ∧ (wyR l r).1.getD i 0 = w.2)))
theorem gorcrosses : InGo Tryz.prog 66 := InGo.of Tryz.func66 rfl (by decide)
theorem wyR_len (l : List Rs) (r : Rs) : (wyR l r).1.length ≤ 257 := by
  have := pathF_len (ofF l (trOf r)) r.fl; unfold wyR; split
  · exact Nat.zero_le _
  split
  · show ((pathF (ofF l (trOf r)) r.fl).take r.tt.toNat).length ≤ 257; rw [List.length_take]; omega
  split
  · show (pathF (ofF l (trOf r)) r.fl ++ [0]).length ≤ 257; rw [List.length_append]; simp; omega
  · exact Nat.zero_le _
set_option maxHeartbeats 8000000 in
theorem rcrosses_ok (l : List Rs) (hl : l.length ≤ 10000) (r : Rs) (q : Wr) : Ok Tryz.prog 66 [rssC l, rsC r, wrC q] (boolC (crR l r q)) := by
  have hW := rway_ok l hl r; have hwl := wyR_len l r
  have e : crR l r q = ((wyR l r).2 && (decide (q.2 ≠ 0) && (if q.1 = 0 then decide (0 < (wyR l r).1.length ∧ (wyR l r).1.getD 0 0 = q.2)
    else decide (∃ i, i < (wyR l r).1.length ∧ 1 ≤ i ∧ (wyR l r).1.getD (i - 1) 0 = q.1 ∧ (wyR l r).1.getD i 0 = q.2)))) := rfl
  generalize crR l r q = c at e ⊢; generalize wyR l r = s at hW hwl e; obtain ⟨p, b⟩ := s; obtain ⟨qa, qb⟩ := q; dsimp only at hW hwl e
  refine Ok.enter Tryz.func66 J _ Tryz.ntmps66 J ?_
  intro S w; refine Qw (Qx (fun K hK => ?_)); refine Xz 0 J J J J J J J (Xz 1 J J J J J J J (Qv J J J (Qj (hK _ _ (Qz (Qw ?_)))))); clear hK K; refine Qx (fun K hK => ?_); refine Qq J J J (Q6 (n := 17) J J J J J lRes J (QW gorway hW J J J J (Qq J J J (Q9 J J J J (Q9 J J J J (Qv J J J (Qv J J J (Qj (hK _ _ (Qz (Qw (Qw ?_)))))))))))); clear hK K; refine Qx (fun K hK => ?_); refine Qq J J J (Qm J J J (Qq J J J ?_))
  cases b with
  | false =>
    refine Qy J J J (Qy J J J (Qy J J J (QJ J J J J (Qj (hK _ _ (Qz (Qp J (Qw ?_)))))))); clear hK K; refine Qx (fun K hK => ?_); refine Qv J J J (Qj (hK _ _ (Qz (Q0 (QZ ?_))))); clear hK K; refine QU [_] rfl (Qu J QQ) (by rw [e]; rfl) J
  | true =>
  rw [Bool.true_and] at e; refine QV J J J fWr1 J (QY J J J J J lAddr J (Qk ieql J J J J (QK J J J J (Qj (hK _ _ (Qz ?_)))))); clear hK K; refine Q2 J (fun h => ?_) (fun h => ?_)
  · rw [decide_eq_false (show ¬ qb ≠ 0 from fun h2 => h2 (_root_.Fin.ext (show qb.val = 0 by dsimp only at h; omega))), Bool.false_and] at e; refine Qw (Qx fun K hK => ?_); refine Qv J J J (Qj (hK _ _ (Qz (Q0 (QZ ?_))))); clear hK K; refine QU [_] rfl (Qu J QQ) (by rw [e]; rfl) J
  rw [decide_eq_true (show qb ≠ 0 from fun h2 => h (by rw [h2]; rfl)), Bool.true_and] at e; refine Q1 (Qz (Qw (Qw (Qx fun K hK => ?_)))); refine QV J J J fWr0 J (QY J J J J J lAddr J (Qk ieql J J J J (Qj (hK _ _ (Qz ?_))))); clear hK K; refine Q2 J (fun h2 => ?_) (fun h2 => ?_)
  · rw [if_pos (show qa = 0 from _root_.Fin.ext (show qa.val = 0 by dsimp only at h2; omega))] at e; refine Qw (Xw mixed 12 (.p 0 (.p 1 (.p 2 (.p 3 (.p 4 (.p 5 (.p 7 (.f 6 (.f 8 (.p 9 (.p 10 (.p 11 .done)))))))))))) (by kernel_rfl) (fun K hK => ?_)); refine Qq J J J (Qb J J sAdrs.und (List.length_map ..) J (Qk igtr J J J J (Qq J J J (Q7 29 J (fun h3 => ?_) (fun h3 => ?_)))))
    · refine Qq J J J (Qh J J J sAdrs (by omega) (adrs_at (by omega) (by omega)) J ?_); refine QV J J J fWr1 J (XQ J J J lAddr J (QY J J J J J lAddr J (Qk ieql J J J J (QJ J J J J (Qv J J J (Qj (hK _ _ (Qz (Q0 (QZ ?_)))))))))); clear hK K
      refine QU [_] rfl (Qu J QQ) (by
        rw [e, decide_eq_decide.2 (show (0 < p.length ∧ p.getD 0 0 = qb) ↔ ((p.getD (Int.toNat 0) 0).val : Int) = (((qa, qb) : Wr).2.val : Int) from ⟨fun h4 => by rw [← h4.2]; rfl, fun h4 => ⟨by omega, _root_.Fin.ext (Int.ofNat.inj h4)⟩⟩)]; rfl) J
    · refine Qy J J J (Qy J J J (Qy J J J (Qy J J J (Qy J J J (Qy J J J (QK J J J J (Qv J J J (Qj (hK _ _ (Qz (Q0 (QZ ?_)))))))))))); clear hK K; refine QU [_] rfl (Qu J QQ) (by rw [e, decide_eq_false (show ¬ (0 < p.length ∧ _) from fun h4 => h3 (by exact_mod_cast h4.1))]; rfl) J
  rw [if_neg (show ¬ qa = 0 from fun h3 => h2 (by rw [h3]; rfl))] at e; refine Q1 (Qz (Qw (Qw (Qx fun K hK => ?_)))); refine Qv J J J (Qj (hK _ _ (Qz (Q5 ?_)))); clear hK K
  refine Xx (α := Nat) (fun i => 1 ≤ i ∧ (i ≤ p.length ∨ i = 1) ∧ ∀ j, j < i → 1 ≤ j → ¬ (p.getD (j - 1) 0 = qa ∧ p.getD j 0 = qb))
    (fun i => [(5, .own 1), (7, .ct (adsC p)), (9, .ct (intC i))]) (fun _ => [(1, .box 37 (wrCs (qa, qb))), (0, .box 35 (rsCs r))]) (fun i => p.length - i) 1 ⟨Nat.le_refl _, .inr J, fun j h h2 => absurd h (by omega)⟩ (by exact QX J ⟨rfl, rfl, rfl, trivial⟩) ?_
  rintro i ⟨h1i, hi, hv⟩
  dsimp only at h1i hi hv ⊢; refine Qw (Qw (Qx fun K hK => ?_)); refine Qq J J J (Qq J J J (Qb J J sAdrs.und (List.length_map ..) J (Qk ilss J J J J (Qj (hK _ _ (Qz ?_)))))); clear hK K; refine Q2 J (fun h3 => ?_) (fun h3 => ?_)
  · have e2 : (i : Int).toNat = i := Int.toNat_natCast i
    have e3 : ((i : Int) - 1).toNat = i - 1 := by omega
    refine Q1 (Qz (Qw (Q5 (Qw ?_)))); refine Xw mixed 17 (.p 0 (.p 1 (.p 2 (.p 3 (.p 5 (.f 4 (.f 6 (.p 7 (.p 8 (.p 9 (.p 10 (.p 11 (.p 13 (.f 12 (.f 14 (.p 15 (.p 16 .done))))))))))))))))) (by kernel_rfl) (fun K hK => ?_); refine Qq J J J (Qq J J J (Qk (isub (by omega) (by omega)) J J J J ?_))
    refine Qh J J J sAdrs (by omega) (adrs_at (by omega) (by omega)) J ?_
    rw [e3]; refine QV J J J fWr0 J (XQ J J J lAddr J (QY J J J J J lAddr J (Qk ieql J J J J (Qq J J J (Q7 51 J (fun h4 => ?_) (fun h4 => ?_))))))
    · have h4 : p.getD (i - 1) 0 = qa := _root_.Fin.ext (Int.ofNat.inj h4); refine Qq J J J (Qq J J J (Qh J J J sAdrs (by omega) (adrs_at (by omega) (by omega)) J ?_)); rw [e2]; refine QV J J J fWr1 J (XQ J J J lAddr J (QY J J J J J lAddr J (Qk ieql J J J J (QJ J J J J (Qj (hK _ _ (Qz ?_))))))); clear hK K; refine Q2 J (fun h5 => ?_) (fun h5 => ?_)
      · have h5 : p.getD i 0 = qb := _root_.Fin.ext (Int.ofNat.inj h5); refine Qw (Qx fun K hK => ?_); refine Qv J J J (Qj (hK _ _ (Qz (Q0 (Q3 (QZ (QZ (Q3 (QZ ?_))))))))); clear hK K; refine QU [_] rfl (Qu J QQ) (by rw [e, decide_eq_true (show (∃ i, i < p.length ∧ 1 ≤ i ∧ p.getD (i - 1) 0 = qa ∧ p.getD i 0 = qb) from ⟨i, by omega, h1i, h4, h5⟩)]; rfl) J
      · refine Q1 (Qz (Qx fun K hK => ?_)); refine Qq J J J (Qk (iadd (by omega) (by omega)) J J J J ?_); refine Qv J J J (Qj (hK _ _ (Q4 ?_))); clear hK K
        refine Q8 (i + 1) (by omega) ⟨by omega, .inl (by omega), fun j hj h6 h7 => by
          rcases Nat.lt_succ_iff_lt_or_eq.1 hj with h8 | h8
          · exact hv j h8 h6 h7
          · subst h8; exact h5 (by rw [h7.2])⟩ (by exact QX rfl ⟨rfl, rfl, by simp only [Int.natCast_add]; rfl, trivial⟩)
    · refine Qy J J J (Qy J J J (Qy J J J (Qy J J J (Qy J J J (Qy J J J (Qy J J J (QK J J J J (Qj (hK _ _ (Qz (Xv J (Q1 (Qz ?_))))))))))))); clear hK K; refine Qx (fun K hK => ?_); refine Qq J J J (Qk (iadd (by omega) (by omega)) J J J J ?_); refine Qv J J J (Qj (hK _ _ (Q4 ?_))); clear hK K
      refine Q8 (i + 1) (by omega) ⟨by omega, .inl (by omega), fun j hj h6 h7 => by
        rcases Nat.lt_succ_iff_lt_or_eq.1 hj with h8 | h8
        · exact hv j h8 h6 h7
        · subst h8; exact h4 (by rw [h7.1])⟩ (by exact QX rfl ⟨rfl, rfl, by simp only [Int.natCast_add]; rfl, trivial⟩)
  · refine Qs (Qz (Qw (Qx fun K hK => ?_))); refine Qv J J J (Qj (hK _ _ (Qz (Q0 ?_)))); clear hK K; refine QU [_] rfl (Qu J QQ) (by rw [e, decide_eq_false (show ¬ (∃ i, i < p.length ∧ 1 ≤ i ∧ p.getD (i - 1) 0 = qa ∧ p.getD i 0 = qb) from fun ⟨j, h4, h5, h6⟩ => hv j (by omega) h5 h6)]; rfl) J
def csR (l : List Rs) (w : Wr) (b : Bool) : List Rs := (sd cmpR (l.filter okR)).filter fun r => crR l r w && (r.an == b)
def crRO (l : List Rs) (w : Wr) : List Ik × List Ik × Int :=
  if ¬ chkR l = 0 then ([], [], chkR l) else if (csR l w true).length + (csR l w false).length = 0 then ([], [], 8) else ((csR l w true).map idOf, (csR l w false).map idOf, 0)
theorem gorCrosses : InGo Tryz.prog 28 := InGo.of Tryz.func28 rfl (by decide)
set_option maxHeartbeats 16000000 in
theorem rCrosses_ok (l : List Rs) (hl : l.length ≤ 10000) (w : Wr) : Ok Tryz.prog 28 [rssC l, wrC w] (.fr (tupT [iksC (crRO l w).1, iksC (crRO l w).2.1, intC (crRO l w).2.2])) := by
  have hC := rcheck_ok l hl; have hO := rOrd24_ok l hl; rw [ord_sd l] at hO
  have hX := fun r => rcrosses_ok l hl r w
  have e : crRO l w = if ¬ chkR l = 0 then ([], [], chkR l) else if ((sd cmpR (l.filter okR)).filter fun r => crR l r w && (r.an == true)).length + ((sd cmpR (l.filter okR)).filter fun r => crR l r w && (r.an == false)).length = 0 then ([], [], 8)
    else (((sd cmpR (l.filter okR)).filter fun r => crR l r w && (r.an == true)).map idOf, ((sd cmpR (l.filter okR)).filter fun r => crR l r w && (r.an == false)).map idOf, 0) := rfl
  have hol : (sd cmpR (l.filter okR)).length ≤ 10000 := by
    have := Yv cmpR (l.filter okR); have := List.length_filter_le okR l; omega
  generalize chkR l = c at hC e; generalize sd cmpR (l.filter okR) = o at hO e hol; generalize crRO l w = out at e ⊢; generalize hcr : (fun r => crR l r w) = cr at hX e
  have hX : ∀ r, Ok Tryz.prog 66 [rssC l, rsC r, wrC w] (boolC (cr r)) := fun r => by have := hX r; rw [← hcr]; exact this
  have e : out = if ¬ c = 0 then ([], [], c) else if (o.filter fun r => cr r && (r.an == true)).length + (o.filter fun r => cr r && (r.an == false)).length = 0 then ([], [], 8)
    else ((o.filter fun r => cr r && (r.an == true)).map idOf, (o.filter fun r => cr r && (r.an == false)).map idOf, 0) := by rw [← hcr]; exact e
  clear hcr
  refine Ok.enter Tryz.func28 J _ Tryz.ntmps28 J ?_
  intro S w0; refine Qw (Qx (fun K hK => ?_)); refine Xz 0 J J J J J J J (Qv J J J (Qv J J J (Qv J J J (Qj (hK _ _ (Qz (Qw (Qw ?_)))))))); clear hK K; refine Qx (fun K hK => ?_); refine Qq J J J (QW gorcheck hC J J J J (Qv J J J (Qj (hK _ _ (Qz (Qw ?_)))))); clear hK K; refine Qx (fun K hK => ?_); refine Qq J J J (Qk ineq J J J J (Qj (hK _ _ (Qz ?_)))); clear hK K; refine Q2 J (fun h => ?_) (fun h => ?_)
  · rw [if_pos h] at e; refine Qw (Qx fun K hK => ?_); refine Qq J J J (Qv J J J (Qv J J J (Qv J J J (Qj (hK _ _ (Qz (Q0 (QZ ?_)))))))); clear hK K; refine QU [_, _, _] rfl (Xj X5 (Qu J (Xj X5 (Qu J (Qu J QQ))))) (by rw [e]; rfl) J
  rw [if_neg h] at e; refine Q1 (Qz (Qw (Qx fun K hK => ?_))); refine Qq J J J (QW gorOrd24 hO J J J J (Qv J J J (Qj (hK _ _ (Qz (Qw ?_)))))); clear hK K; refine Qx (fun K hK => ?_); refine Qv J J J (Qv J J J (Qj (hK _ _ (Qz (Qw (Qw ?_)))))); clear hK K; refine Qx (fun K hK => ?_); refine Qv J J J (Qj (hK _ _ (Qz (Q5 ?_)))); clear hK K; refine Xg 9 2 124 3 J J J (Xg 10 4 124 3 J J J ?_); skip
  refine Xx (α := Nat) (fun i => i ≤ o.length)
    (fun i => [(0, .ct (rssC l)), (3, .own 0), (8, .ct (rssC o)), (9, .own 2), (10, .own 4), (11, .ct (intC i))])
    (fun i => [(4, .row 124 3 (iks (((o.take i).filter fun r => cr r && (r.an == false)).map idOf))), (2, .row 124 3 (iks (((o.take i).filter fun r => cr r && (r.an == true)).map idOf))), (0, .box 37 (wrCs w))])
    (fun i => o.length - i) 0 (Nat.zero_le _) (by exact QX J ⟨rfl, rfl, rfl, rfl, rfl, rfl, trivial⟩) ?_
  intro i hi
  try dsimp only at hi ⊢
  refine Qw (Qw (Qx fun K hK => ?_)); refine Qq J J J (Qq J J J (Qb J J sRes.und (List.length_map ..) J (Qk ilss J J J J (Qj (hK _ _ (Qz ?_)))))); clear hK K; refine Q2 J (fun h => ?_) (fun h => ?_)
  · have e2 : (i : Int).toNat = i := Int.toNat_natCast i; have hs1 := Zn (fun r => cr r && (r.an == true)) (z := rs0) (i := i) (l := o) (by omega); have hs2 := Zn (fun r => cr r && (r.an == false)) (z := rs0) (i := i) (l := o) (by omega); have hf1 := Yu (fun r => cr r && (r.an == true)) o i; have hf2 := Yu (fun r => cr r && (r.an == false)) o i; generalize hx : o.getD i rs0 = x at hs1 hs2; generalize (o.take i).filter (fun r => cr r && (r.an == true)) = s1 at hs1 hf1 ⊢; generalize (o.take i).filter (fun r => cr r && (r.an == false)) = s2 at hs2 hf2 ⊢; refine Q1 (Qz (Qw (Q5 (Q5 (Qw ?_))))); refine Xw mixed 9 (.p 0 (.p 1 (.p 2 (.p 3 (.f 4 (.f 5 (.m 6 (.p 7 (.p 8 .done))))))))) (by kernel_rfl) (fun K hK => ?_); refine Qq J J J (Qq J J J (Qq J J J (Qh J J J sRes (by omega) (Xd (by omega) (by omega)) J ?_))); refine XX (n := 17) J J J lRes J J (Q6 (n := 2) J J J J J Xm J ?_); rw [e2, hx]; refine QW gorcrosses (hX x) J J J J (Qm J J J (Qv J J J (Qj (hK _ _ (Qz ?_))))); clear hK K; refine XZ J (fun h2 => ?_) (fun h2 => ?_)
    · rw [if_neg (by simp at h2; simp [h2])] at hs1 hs2; refine Q1 (Qz (Qx fun K hK => ?_)); refine Qq J J J (Qk (iadd (by omega) (by omega)) J J J J ?_); refine Qv J J J (Qj (hK _ _ (Q4 ?_))); clear hK K; refine Q8 (i + 1) (by omega) (by omega) (by rw [hs1, hs2]; exact QX J ⟨rfl, rfl, rfl, rfl, rfl, by simp only [Int.natCast_add]; rfl, trivial⟩)
    have h2 : cr x = true := by simpa using h2
    refine Qw (Qx fun K hK => ?_); refine Qq J J J (Qq J J J (Qh J J J sRes (by omega) (Xd (by omega) (by omega)) J ?_)); rw [e2, hx]; refine Ops.fldF J J fS8 J (XQ J J J lBool J (Qv J J J (Qj (hK _ _ (Qz ?_))))); clear hK K; refine XZ J (fun h3 => ?_) (fun h3 => ?_)
    · rw [if_pos (by simp [h2, h3])] at hs1; rw [if_neg (by simp [h3])] at hs2; refine Qx (fun K hK => ?_); refine Qq J J J (Qq J J J (Qq J J J (Qh J J J sRes (by omega) (Xd (by omega) (by omega)) J ?_)))
      refine XX (n := 17) J J J lRes J J ?_
      rw [e2, hx]; refine QW gorIdentity (rIdentity_ok x) J J J J (X6 (n := 3) J J sIks J J (by decide) J ?_)
      refine Qt (s1.map idOf).length (iks (s1.map idOf ++ [idOf x])) J J J J sIks (iks_len _) J (by rw [List.length_map]; omega) (by rw [List.length_map]; omega) (iks_snoc _ _) J ?_
      refine Qv J J J (Qj (hK _ _ (Qz ?_))); clear hK K; refine Qx (fun K hK => ?_); refine Qq J J J (Qk (iadd (by omega) (by omega)) J J J J ?_); refine Qv J J J (Qj (hK _ _ (Q4 ?_))); clear hK K; refine Q8 (i + 1) (by omega) (by omega) (by rw [hs1, hs2, List.map_append]; exact QX J ⟨rfl, rfl, rfl, rfl, rfl, by simp only [Int.natCast_add]; rfl, trivial⟩)
    · rw [if_neg (by simp [h3])] at hs1; rw [if_pos (by simp [h2, h3])] at hs2; refine Qx (fun K hK => ?_); refine Qq J J J (Qq J J J (Qq J J J (Qh J J J sRes (by omega) (Xd (by omega) (by omega)) J ?_)))
      refine XX (n := 17) J J J lRes J J ?_
      rw [e2, hx]; refine QW gorIdentity (rIdentity_ok x) J J J J (X6 (n := 3) J J sIks J J (by decide) J ?_)
      refine Qt (s2.map idOf).length (iks (s2.map idOf ++ [idOf x])) J J J J sIks (iks_len _) J (by rw [List.length_map]; omega) (by rw [List.length_map]; omega) (iks_snoc _ _) J ?_
      refine Qv J J J (Qj (hK _ _ (Qz ?_))); clear hK K; refine Qx (fun K hK => ?_); refine Qq J J J (Qk (iadd (by omega) (by omega)) J J J J ?_); refine Qv J J J (Qj (hK _ _ (Q4 ?_))); clear hK K; refine Q8 (i + 1) (by omega) (by omega) (by rw [hs1, hs2, List.map_append]; exact QX J ⟨rfl, rfl, rfl, rfl, rfl, by simp only [Int.natCast_add]; rfl, trivial⟩)
  · have hi' : i = o.length := by omega
    rw [hi', List.take_length]; have hf1 := List.length_filter_le (fun r => cr r && (r.an == true)) o; have hf2 := List.length_filter_le (fun r => cr r && (r.an == false)) o; generalize o.filter (fun r => cr r && (r.an == true)) = s1 at e hf1 ⊢; generalize o.filter (fun r => cr r && (r.an == false)) = s2 at e hf2 ⊢; refine Qs (Qz (Qw (Qw (Qx fun K hK => ?_)))); refine Qq J J J (ZZ _ J J J (by decide) (iks_len _) sIks.und J ?_); refine Qq J J J (ZZ _ J J J (by decide) (iks_len _) sIks.und J ?_); rw [List.length_map, List.length_map]
    refine Qk (iadd (by omega) (by omega)) J J J J ?_
    refine Qk ieql J J J J (Qj (hK _ _ (Qz ?_))); clear hK K; refine Q2 J (fun h2 => ?_) (fun h2 => ?_)
    · rw [if_pos (by omega)] at e; refine Qw (Qx fun K hK => ?_); refine Qv J J J (Qv J J J (Qv J J J (Qj (hK _ _ (Qz (Q0 (QZ ?_))))))); clear hK K; refine QU [_, _, _] rfl (Xj X5 (Qu J (Xj X5 (Qu J (Qu J QQ))))) (by rw [e]; rfl) J
    · rw [if_neg (by omega)] at e; refine Q1 (Qz (Qw (Qx fun K hK => ?_))); refine Qq J J J (Qq J J J (Qv J J J (Qv J J J (Qv J J J (Qj (hK _ _ (Qz (Q0 ?_)))))))); clear hK K; refine Z6 2 _ J (iks_frozen _ _) noBor_sub (Z6 4 _ J (iks_frozen _ _) noBor_sub (QU [_, _, _] rfl (Qu J (Qu J (Qu J QQ))) (by rw [e]; rfl) J))
set_option maxHeartbeats 2000000 in
theorem IndexFunc_res (xs : List Rs) (f : FuncId) (p : Rs → Bool) (hgo : InGo Tryz.prog f) (hf : ∀ x ∈ xs, Ok Tryz.prog f [rsC x] (boolC (p x))) (hl : xs.length < 4611686018427387904) : Ok Tryz.prog 113 [rssC xs, (.ex (.func (.func f) #[] #[]))] (intC (idxI p xs)) := by
  refine Ok.enter Tryz.func113 J _ Tryz.ntmps113 J ?_
  intro S w; refine Qw (Qx fun K hK => ?_); refine Qv J J J (Qj (hK _ _ (Qz (Qw (Qw ?_))))); clear hK K; refine Qx (fun K hK => ?_); refine Qq J J J (Qb J J sRes.und (List.length_map ..) J (Qq J J J (Qj (hK _ _ (Qz (Q5 ?_)))))); clear hK K
  refine Xx (α := Nat) (fun i => i ≤ xs.length ∧ ∀ j, j < i → p (xs.getD j rs0) = false)
    (fun i => [(0, .ct (rssC xs)), (1, .ct (.ex (.func (.func f) #[] #[]))), (7, .ct (intC xs.length)), (8, .ct (intC i))]) (fun _ => []) (fun i => xs.length - i) 0 ⟨Nat.zero_le _, fun j h => absurd h (Nat.not_lt_zero j)⟩ (by exact QX J ⟨rfl, rfl, rfl, rfl, trivial⟩) ?_
  intro i ⟨hi, hv⟩; dsimp only; refine Qw (Qx fun K hK => ?_); refine Qk ilss J J J J (Qj (hK _ _ (Qz (Qw ?_)))); clear hK K; refine Q2 J (fun h => ?_) (fun h => ?_)
  · have e2 : (i : Int).toNat = i := Int.toNat_natCast i; refine Q1 (Qz (Qw (Q5 (Qw (Qx fun K hK => ?_))))); refine Qq J J J (Qv J J J (Qj (hK _ _ (Qz (Qw ?_))))); clear hK K; refine Qx (fun K hK => ?_); refine Qq J J J (Qq J J J (Qq J J J (Qh J J J sRes (by omega) (Xd (by omega) (by omega)) J ?_)))
    refine XX (n := 17) J J J lRes J J ?_
    try rw [e2]
    skip
    refine Ops.callF hgo J (hf _ (getD_mem (by omega))) J J J J ?_
    refine Qj (hK _ _ (Qz ?_)); clear hK K; refine XZ J (fun h2 => ?_) (fun h2 => ?_)
    · refine Qw (Qx fun K hK => ?_); refine Qq J J J (Qv J J J (Qj (hK _ _ (Qz (Q0 (Q3 (QZ (QZ (Q3 (QZ ?_)))))))))); clear hK K; refine QU [_] rfl (Qu J QQ) (by rw [idxI_hit (by omega) h2 hv]; rfl) J
    · refine Q1 (Qz (Qx fun K hK => ?_))
      refine Qk (iadd (by omega) (by omega)) J J J J ?_
      refine Qq J J J (Qj (hK _ _ (Q4 ?_))); clear hK K; refine Q8 (i + 1) (by omega) ⟨by omega, ?_⟩ (by exact QX J ⟨rfl, rfl, rfl, by simp only [Int.natCast_add]; rfl, trivial⟩); intro j hj; rcases Nat.lt_or_ge j i with h3 | h3
      · exact hv j h3
      · have : j = i := by omega
        rw [this]; exact h2
  · have hi' : i = xs.length := by omega
    refine Qs (Qz (Qw (Qx fun K hK => ?_))); refine Qv J J J (Qj (hK _ _ (Qz (Q0 ?_)))); clear hK K; refine QU [_] rfl (Qu J QQ) (by rw [idxI_miss (fun j hj => hv j (by omega))]; rfl) J
theorem goIndexFunc_res : InGo Tryz.prog 113 := InGo.of Tryz.func113 (by kernel_rfl) (by kernel_rfl)
theorem ContainsFunc_res (xs : List Rs) (f : FuncId) (p : Rs → Bool) (hgo : InGo Tryz.prog f) (hf : ∀ x ∈ xs, Ok Tryz.prog f [rsC x] (boolC (p x))) (hl : xs.length < 4611686018427387904) : Ok Tryz.prog 71 [rssC xs, (.ex (.func (.func f) #[] #[]))] (boolC (xs.any p)) := by
  refine Ok.enter Tryz.func71 J _ Tryz.ntmps71 J ?_
  intro S w; refine Qw (Qx fun K hK => ?_); refine Qv J J J (Qj (hK _ _ (Qz (Qw ?_)))); clear hK K; refine Qx (fun K hK => ?_); refine Qq J J J (Qq J J J (QW goIndexFunc_res (IndexFunc_res xs f p hgo hf hl) J J J J (Qk igeq J J J J (Qv J J J (Qj (hK _ _ (Qz (Q0 ?_)))))))); clear hK K; refine QU [_] rfl (Qu J QQ) (by rw [← idxI_any]; rfl) J
theorem goContainsFunc_res : InGo Tryz.prog 71 := InGo.of Tryz.func71 (by kernel_rfl) (by kernel_rfl)
theorem gocheck1 : InGo Tryz.prog 85 := InGo.of Tryz.func85 rfl (by decide)
theorem check1_ok (r : Rs) : Ok Tryz.prog 85 [rsC r] (boolC (!okR r)) := by
  refine Ok.enter Tryz.func85 J _ Tryz.ntmps85 J ?_
  intro S w; refine Qw (Qx fun K hK => ?_); refine Xz 0 J J J J J J J (Qv J J J (Qj (hK _ _ (Qz (Qw ?_))))); clear hK K; refine Qx (fun K hK => ?_); refine Q6 (n := 17) J J J J J lRes J (QW goValidR (ValidR_ok r) J J J J (Qm J J J (Qv J J J (Qj (hK _ _ (Qz (Q0 ?_))))))); clear hK K; refine QU [_] rfl (Qu J QQ) J J
set_option maxHeartbeats 4000000 in
theorem Index_wr (xs : List Wr) (q : Wr) (hl : xs.length < 4611686018427387904) : Ok Tryz.prog 109 [wrsC xs, wrC q] (intC (idxI (fun x => decide (q = x)) xs)) := by
  refine Ok.enter Tryz.func109 J _ Tryz.ntmps109 J ?_
  intro S w; refine Qw (Qx (fun K hK => ?_)); refine Xz 0 J J J J J J J (Qv J J J (Qj (hK _ _ (Qz (Qw (Qw ?_)))))); clear hK K; refine Qx (fun K hK => ?_); refine Qq J J J (Qb J J sWrs.und (List.length_map ..) J (Qq J J J (Qj (hK _ _ (Qz (Q5 ?_)))))); clear hK K
  refine Xx (α := Nat) (fun i => i ≤ xs.length ∧ ∀ j, j < i → decide (q = xs.getD j wr0) = false)
    (fun i => [(0, .ct (wrsC xs)), (3, .own 0), (7, .ct (intC xs.length)), (8, .ct (intC i))]) (fun _ => [(0, .box 37 (wrCs q))]) (fun i => xs.length - i) 0 ⟨Nat.zero_le _, fun j h => absurd h (Nat.not_lt_zero j)⟩ (by exact QX J ⟨rfl, rfl, rfl, rfl, trivial⟩) ?_
  intro i ⟨hi, hv⟩; dsimp only; refine Qw (Qx fun K hK => ?_); refine Qk ilss J J J J (Qj (hK _ _ (Qz (Qw ?_)))); clear hK K; refine Q2 J (fun h => ?_) (fun h => ?_)
  · have e2 : (i : Int).toNat = i := Int.toNat_natCast i; refine Q1 (Qz (Qw (Q5 (Qw (Qx fun K hK => ?_))))); refine Qq J J J (Qv J J J (Qj (hK _ _ (Qz (Qw ?_))))); clear hK K; refine Xo (α := Unit) (fun _ => True) (fun _ => [(0, .ct (wrsC xs)), (3, .own 0), (5, .ct (intC i)), (7, .ct (intC xs.length)), (8, .ct (intC i)), (16, .ct (boolC (decide (q = xs.getD i wr0))))]) (fun _ => [(0, .box 37 (wrCs q))]) (fun _ _ => ?_) (fun KN hM => ?_); rotate_left
    · refine Xw mixed 6 (.p 1 (.p 2 (.p 3 (.f 0 (.f 4 (.p 5 .done)))))) (by kernel_rfl) (fun K hK => ?_); refine Qq J J J (Qq J J J (Qh J J J sWrs (by omega) (wrs_at (by omega) (by omega)) J ?_)); rw [e2]; refine Q6 (n := 2) J J J J J Xm J (XX (n := 2) J J J Xm J J (eqWr q (xs.getD i wr0) J J J J J (Qj (hK _ _ ?_)))); clear hK K; exact Qr hM () trivial (QX J ⟨rfl, rfl, rfl, rfl, rfl, rfl, trivial⟩)
    skip; refine XZ J (fun h2 => ?_) (fun h2 => ?_)
    · refine Qw (Qx fun K hK => ?_); refine Qq J J J (Qv J J J (Qj (hK _ _ (Qz (Q0 (Q3 (QZ (QZ (Q3 (QZ ?_)))))))))); clear hK K; refine QU [_] rfl (Qu J QQ) (by rw [idxI_hit (p := fun x => decide (q = x)) (by omega) h2 hv]; rfl) J
    · refine Q1 (Qz (Qx fun K hK => ?_))
      refine Qk (iadd (by omega) (by omega)) J J J J ?_
      refine Qq J J J (Qj (hK _ _ (Q4 ?_))); clear hK K; refine Q8 (i + 1) (by omega) ⟨by omega, ?_⟩ (by exact QX J ⟨rfl, rfl, rfl, by simp only [Int.natCast_add]; rfl, trivial⟩); intro j hj; rcases Nat.lt_or_ge j i with h3 | h3
      · exact hv j h3
      · have : j = i := by omega
        rw [this]; exact h2
  · have hi' : i = xs.length := by omega
    refine Qs (Qz (Qw (Qx fun K hK => ?_))); refine Qv J J J (Qj (hK _ _ (Qz (Q0 ?_)))); clear hK K; refine QU [_] rfl (Qu J QQ) (by rw [idxI_miss (p := fun x => decide (q = x)) (z := wr0) (fun j hj => hv j (by omega))]; rfl) J
theorem goIndex_wr : InGo Tryz.prog 109 := InGo.of Tryz.func109 (by kernel_rfl) (by kernel_rfl)
theorem Contains_wr (xs : List Wr) (q : Wr) (hl : xs.length < 4611686018427387904) : Ok Tryz.prog 63 [wrsC xs, wrC q] (boolC (decide (q ∈ xs))) := by
  have e : decide (q ∈ xs) = decide (0 ≤ idxI (fun x => decide (q = x)) xs) := by
    rw [idxI_any, Bool.eq_iff_iff, decide_eq_true_eq, List.any_eq_true]; exact ⟨fun h => ⟨q, h, decide_eq_true J⟩, fun ⟨x, h1, h2⟩ => (of_decide_eq_true h2) ▸ h1⟩
  rw [e]
  refine Ok.enter Tryz.func63 J _ Tryz.ntmps63 J ?_
  intro S w; refine Qw (Qx (fun K hK => ?_)); refine Xz 0 J J J J J J J (Qv J J J (Qj (hK _ _ (Qz (Qw ?_))))); clear hK K; refine Qx (fun K hK => ?_); refine Qq J J J (Q6 (n := 2) J J J J J Xm J (QW goIndex_wr (Index_wr xs q hl) J J J J (Qk igeq J J J J (Qv J J J (Qj (hK _ _ (Qz (Q0 ?_)))))))); clear hK K; refine QU [_] rfl (Qu J QQ) J J
theorem goContains_wr : InGo Tryz.prog 63 := InGo.of Tryz.func63 (by kernel_rfl) (by kernel_rfl)
theorem gocheck : InGo Tryz.prog 43 := InGo.of Tryz.func43 rfl (by decide)
theorem check_ok (l : List Rs) (hl : l.length ≤ 10000) : Ok Tryz.prog 43 [rssC l] (intC (chkF l)) := by
  have hC := ContainsFunc_res l _ (fun r => !okR r) gocheck1 (fun x _ => check1_ok x) (by omega); have hO := Order_ok l hl; have hN := Consistent_ok l hl
  have e : chkF l = if (l.any fun r => !okR r) = true then 1 else if 512 < ((sd cmpR (l.filter okR)).length : Int) then 5 else if consB l = true then 0 else 30 := rfl
  have hol : (sd cmpR (l.filter okR)).length ≤ 10000 := by
    have := Yv cmpR (l.filter okR); have := List.length_filter_le okR l; omega
  generalize chkF l = c at e ⊢; generalize (l.any fun r => !okR r) = b1 at hC e; generalize sd cmpR (l.filter okR) = o at hO e hol; generalize consB l = b3 at hN e
  refine Ok.enter Tryz.func43 J _ Tryz.ntmps43 J ?_
  intro S w; refine Qw (Qx fun K hK => ?_); refine Qv J J J (Qj (hK _ _ (Qz (Qw (Q5 (Qw ?_)))))); clear hK K; refine Qx (fun K hK => ?_); refine Qq J J J (QW goContainsFunc_res hC J J J J (Qv J J J (Qj (hK _ _ (Qz ?_))))); clear hK K; refine XZ J (fun h => ?_) (fun h => ?_)
  · rw [if_pos h] at e; refine Qw (Qx fun K hK => ?_); refine Qv J J J (Qj (hK _ _ (Qz (Q0 (Q3 (QZ ?_)))))); clear hK K; refine QU [_] rfl (Qu J QQ) (by rw [e]; rfl) J
  rw [if_neg (by rw [h]; decide)] at e; refine Qw (Qx fun K hK => ?_); refine Qq J J J (ZQ 3 goOrder hO J J J J J J (Zx 3 _ J (rss_frozen _ _) noBor_sub (Qb J J sRes.und (List.length_map ..) J (Qk igtr J J J J (Qv J J J (Qj (hK _ _ (Qz ?_)))))))); clear hK K; refine Q2 J (fun h2 => ?_) (fun h2 => ?_)
  · rw [if_pos h2] at e; refine Qw (Qx fun K hK => ?_); refine Qv J J J (Qj (hK _ _ (Qz (Q0 (Q3 (QZ ?_)))))); clear hK K; refine QU [_] rfl (Qu J QQ) (by rw [e]; rfl) J
  rw [if_neg h2] at e; refine Qw (Qx fun K hK => ?_); refine Qq J J J (QW goConsistent hN J J J J (Qm J J J (Qv J J J (Qj (hK _ _ (Qz ?_)))))); clear hK K; refine XZ J (fun h3 => ?_) (fun h3 => ?_)
  · rw [if_neg (by simpa using h3)] at e; refine Qw (Qx fun K hK => ?_); refine Qv J J J (Qj (hK _ _ (Qz (Q0 (Q3 (QZ ?_)))))); clear hK K; refine QU [_] rfl (Qu J QQ) (by rw [e]; rfl) J
  rw [if_pos (by simpa using h3)] at e; refine Q1 (Qz (Qw (Qx fun K hK => ?_))); refine Qv J J J (Qj (hK _ _ (Qz (Q0 ?_)))); clear hK K; refine QU [_] rfl (Qu J QQ) (by rw [e]; rfl) J
end Go.Proofs.YtlkdkbdgnjcopaaGreat
namespace Go.Proofs.YtlkdkbdgnjcopaaGreat
open Go.Own Go.Limbs
attribute [local irreducible] St Ops Go.Own.Fin Ok OkB OkN OkT OkL OkF
abbrev cnCs (c : Cn) : List CT := [adrF c.wr.1, adrF c.wr.2, intC c.se, intC c.lo, intC c.hi]
abbrev cnC (c : Cn) : CT := .fr (aggT (cnCs c))
abbrev csCs (c : Int × Int) : List CT := [intC c.1, intC c.2]
abbrev csC (c : Int × Int) : CT := .fr (aggT (csCs c))
theorem lCn : LdN Tryz.prog 39 5 := LdN.of _ Tryz.underlying39 rfl (by kernel_rfl)
theorem szCn : (Tryz.prog.info? 39).map (·.size) = some 5 := by kernel_rfl
theorem zvCn : (Tryz.prog.info? 39).map (·.zero) = some (some (.agg #[.int .u32 0, .int .u32 0, .int .i64 0, .int .i64 0, .int .i64 0])) := by kernel_rfl
theorem bCn : bInfo Tryz.prog 39 = some (.agg #[.int .u32 0, .int .u32 0, .int .i64 0, .int .i64 0, .int .i64 0], [(0, some 2), (2, some 1), (3, some 1), (4, some 1)]) := by kernel_rfl
theorem fCn0 : fldInfo Tryz.prog 39 0 = some (0, some 2) := by kernel_rfl
theorem fCn1 : fldInfo Tryz.prog 39 1 = some (2, some 1) := by kernel_rfl
theorem fCn2 : fldInfo Tryz.prog 39 2 = some (3, some 1) := by kernel_rfl
theorem fCn3 : fldInfo Tryz.prog 39 3 = some (4, some 1) := by kernel_rfl
theorem lCs : LdN Tryz.prog 81 2 := LdN.of _ Tryz.underlying81 rfl (by kernel_rfl)
theorem szCs : (Tryz.prog.info? 81).map (·.size) = some 2 := by kernel_rfl
theorem zvCs : (Tryz.prog.info? 81).map (·.zero) = some (some (.agg #[.int .i64 0, .int .i64 0])) := by kernel_rfl
theorem bCs : bInfo Tryz.prog 81 = some (.agg #[.int .i64 0, .int .i64 0], [(0, some 1), (1, some 1)]) := by kernel_rfl
theorem fCs0 : fldInfo Tryz.prog 81 0 = some (0, some 1) := by kernel_rfl
theorem fCs1 : fldInfo Tryz.prog 81 1 = some (1, some 1) := by kernel_rfl
end Go.Proofs.YtlkdkbdgnjcopaaGreat
namespace Go.Own
section
variable {X : Ctx} {L : AL} {B : BL} {ops : Array Oper} {K : Act → World → Prop} {r : Pl} {k : Kd}
  {x y z : Operand} {d : Nat} {t t2 t' : TypeId} {pos : String} {af : Array Edge} {g : Option (Nat × Bool)}
theorem Ops.callNew {f : FuncId} {args : List Operand} {tys : Array TypeId} {As : List Sl} {α : Type} {J : α → Prop} {R : α → CT} {e : α → Ent} (a : Nat) (hgo : InGo X.P f) (hok : OkM X.P f As [] [] J (fun q => .ct (R q)) (fun q => [(a, e q)])) (hg : gd ops L g = some true) (hargs : evS L args = some As) (hn : Nat.blt d X.n = true)
    (hbor : ∀ gb, X.bor gb → X.S0 gb) (hi : bget B a = none) (hfix : (X.fix.all fun p => (bget B p.1).isSome) = true) (hL : noN a L = true)
    (h : ∀ q, J q → Ops X ops r ((d, .ct (R q)) :: L) ((a, e q) :: B) K) : Ops X ops (.cons ⟨some d, .call { callee := .value (.func f), args := args.toArray, argTypes := tys }, t, pos, af, g⟩ .any r) L B K := by
  refine Ops.callM B (fun j => !Nat.beq j a) hgo hok hg hargs hn hbor (fun j => rfl) (fun j hj => ?_) (fun j hj => ?_) (fun p hp => .inl (List.all_eq_true.1 hfix p hp)) (fun q j hq => ?_) (fun q hq => ?_)
  · have h0 : a ≠ j := fun e => by subst e; rw [hi] at hj; cases hj
    exact ⟨rfl, fun q => by rw [Xq _ _ h0]; rfl⟩
  · have h9 : a ≠ j := fun e => by subst e; rw [Nat.beq_refl] at hj; cases hj
    exact .inr fun q => by rw [Xq _ _ h9]; rfl
  · rcases hq with hq | ⟨_, hq⟩ <;> cases hq
  · rw [keepL_id hL]; exact h q hq
theorem Entails.front {L' : AL} {B' : BL} (a : Nat) (e : Ent) (hb : bget B a = some e) (h : Entails X L ((a, e) :: bdel B a) L' B') : Entails X L B L' B' := fun x ρ w hI => h x ρ w (hI.bext fun j => by
  by_cases hj : a = j
  · subst hj; rw [XV, hb]
  · rw [Xq _ _ hj, ZX _ (Ne.symm hj)])
end
end Go.Own
namespace Go.Proofs.YtlkdkbdgnjcopaaGreat
open Go.Own Go.Limbs
attribute [local irreducible] St Ops Go.Own.Fin Ok OkB OkN OkT OkL OkF OkM
theorem wiresG_len : ∀ (l : List (Fin 4294967296)) (p : Fin 4294967296) (b : Bool), (wiresG p l b).length ≤ l.length
  | [], _, _ => Nat.le_refl _
  | a :: l, p, b => by
    have := wiresG_len l a false
    unfold wiresG
    rw [List.length_append, List.length_cons]
    split <;> simp <;> omega
theorem wayF_len (l : List Rs) (r : Rs) : (wayF l r).length ≤ 256 := by
  have h := pathF_len (ofF l (trOf r)) r.fl; rw [wayF_eq]; split
  · simp
  · split
    · have := wiresG_len ((pathF (ofF l (trOf r)) r.fl).take r.tt.toNat) 0 true; rw [List.length_take] at this; omega
    · split
      · simp
      · have := wiresG_len (pathF (ofF l (trOf r)) r.fl) 0 true; omega
def crO (l : List Rs) (w : Wr) : List Ik × List Ik × Int :=
  if ¬ chkF l = 0 then ([], [], chkF l) else if (crsF l w true).length + (crsF l w false).length = 0 then ([], [], 8) else ((crsF l w true).map idOf, (crsF l w false).map idOf, 0)
theorem goCrosses : InGo Tryz.prog 27 := InGo.of Tryz.func27 rfl (by decide)
set_option maxHeartbeats 16000000 in
theorem Crosses_ok (l : List Rs) (hl : l.length ≤ 10000) (w : Wr) : Ok Tryz.prog 27 [rssC l, wrC w] (.fr (tupT [iksC (crO l w).1, iksC (crO l w).2.1, intC (crO l w).2.2])) := by
  have hC := check_ok l hl; have hT := Travel_ok l hl; have hO := Order_ok l hl
  have hW := fun v hv r al hal => Way_ok l hl v hv r al hal
  have hwl := wayF_len l
  have e : crO l w = if ¬ chkF l = 0 then ([], [], chkF l) else if ((sd cmpR (l.filter okR)).filter fun r => decide (w ∈ wayF l r) && (r.an == true)).length + ((sd cmpR (l.filter okR)).filter fun r => decide (w ∈ wayF l r) && (r.an == false)).length = 0 then ([], [], 8)
    else (((sd cmpR (l.filter okR)).filter fun r => decide (w ∈ wayF l r) && (r.an == true)).map idOf, ((sd cmpR (l.filter okR)).filter fun r => decide (w ∈ wayF l r) && (r.an == false)).map idOf, 0) := rfl
  have hol : (sd cmpR (l.filter okR)).length ≤ 10000 := by
    have := Yv cmpR (l.filter okR); have := List.length_filter_le okR l; omega
  generalize chkF l = c at hC e; generalize wayF l = wy at hW e hwl; generalize sd cmpR (l.filter okR) = o at hO e hol; generalize crO l w = out at e ⊢; generalize owF l = om at hT hW
  refine Ok.enter Tryz.func27 J _ Tryz.ntmps27 J ?_
  intro S w0; refine Qw (Qx (fun K hK => ?_)); refine Xz 0 J J J J J J J (Qv J J J (Qv J J J (Qv J J J (Qj (hK _ _ (Qz (Qw (Qw ?_)))))))); clear hK K; refine Qx (fun K hK => ?_); refine Qq J J J (QW gocheck hC J J J J (Qv J J J (Qj (hK _ _ (Qz (Qw ?_)))))); clear hK K; refine Qx (fun K hK => ?_); refine Qq J J J (Qk ineq J J J J (Qj (hK _ _ (Qz ?_)))); clear hK K; refine Q2 J (fun h => ?_) (fun h => ?_)
  · rw [if_pos h] at e; refine Qw (Qx fun K hK => ?_); refine Qq J J J (Qv J J J (Qv J J J (Qv J J J (Qj (hK _ _ (Qz (Q0 (QZ ?_)))))))); clear hK K; refine QU [_, _, _] rfl (Xj X5 (Qu J (Xj X5 (Qu J (Qu J QQ))))) (by rw [e]; rfl) J
  rw [if_neg h] at e; refine Q1 (Qz (Qw (Qx fun K hK => ?_))); refine Qq J J J (Ops.callNew 8 gotravel hT J J J (fun _ h => h.elim) J J J (fun v hv => ?_)); refine Qg 1 J J zvTrav J J J (Qa 2 J J J J (by show (true && (Value.oneCell' v && true)) = true; rw [hv]; rfl) szTrav J J ?_); refine Qj (hK _ _ (Qz (Qw ?_))); clear hK K; refine Qx (fun K hK => ?_); refine Qv J J J (Qv J J J (Qj (hK _ _ (Qz (Qw (Qw ?_)))))); clear hK K; refine Qx (fun K hK => ?_); refine Qq J J J (ZQ 3 goOrder hO J J J J J J (Zx 3 _ J (rss_frozen _ _) noBor_sub (Qb J J sRes.und (List.length_map ..) J (Qq J J J (Qj (hK _ _ (Qz (Q5 ?_)))))))); clear hK K; refine Xg 9 2 124 3 J J J (Xg 10 4 124 3 J J J ?_)
  refine Xx (α := Nat × KnM) (fun q => q.1 ≤ o.length ∧ knOk l q.2)
    (fun q => [(3, .own 0), (8, .own 1), (9, .own 2), (10, .own 4), (21, .ct (rssC o)), (22, .ct (intC o.length)), (23, .ct (intC q.1))])
    (fun q => [(8, .mpx v (knM q.2)), (4, .row 124 3 (iks (((o.take q.1).filter fun r => decide (w ∈ wy r) && (r.an == false)).map idOf))), (2, .row 124 3 (iks (((o.take q.1).filter fun r => decide (w ∈ wy r) && (r.an == true)).map idOf))), (1, .box 94 [.fr (mapT (owM om)), .ex v]), (0, .box 37 (wrCs w))])
    (fun q => o.length - q.1) (0, []) ⟨Nat.zero_le _, fun _ _ h => by cases h⟩ (Entails.front 8 _ J <| by exact QX J ⟨rfl, rfl, rfl, rfl, rfl, rfl, rfl, trivial⟩) ?_
  intro ⟨i, m⟩ ⟨hi, hm⟩
  try dsimp only at hi hm ⊢
  refine Qw (Qx fun K hK => ?_); refine Qk ilss J J J J (Qj (hK _ _ (Qz (Qw ?_)))); clear hK K; refine Q2 J (fun h => ?_) (fun h => ?_)
  · have e2 : (i : Int).toNat = i := Int.toNat_natCast i; have hs1 := Zn (fun r => decide (w ∈ wy r) && (r.an == true)) (z := rs0) (i := i) (l := o) (by omega); have hs2 := Zn (fun r => decide (w ∈ wy r) && (r.an == false)) (z := rs0) (i := i) (l := o) (by omega); have hf1 := Yu (fun r => decide (w ∈ wy r) && (r.an == true)) o i; have hf2 := Yu (fun r => decide (w ∈ wy r) && (r.an == false)) o i; refine Q1 (Qz (Qw (Q5 (Qw (Qx fun K hK => ?_)))))
    refine Qh J J J sRes (by omega) (Xd (by omega) (by omega)) J ?_
    refine XX (n := 17) J J J lRes J J ?_
    rw [e2]; generalize o.getD i rs0 = x at hs1 hs2; generalize (o.take i).filter (fun r => decide (w ∈ wy r) && (r.an == true)) = s1 at hs1 hf1 ⊢; generalize (o.take i).filter (fun r => decide (w ∈ wy r) && (r.an == false)) = s2 at hs2 hf2 ⊢; refine Qg 6 J J zvRes J J J (Qa 17 J J J J J Z4 J J (Qj (hK _ _ (Qz (Qw (Qw ?_)))))); clear hK K; refine Yq mixed [2] (.f 0 (.f 1 (.a 2 (.f 3 (.m 4 (.p 5 .done) .non)) (.m 3 (.a 2 (.m 4 (.p 5 .done) .non) .non) .non)))) (by kernel_rfl) (fun K hK => ?_); refine XU (Q6 (n := 2) J J J J J lTrav J (Qj (XU (Q6 (n := 17) J J J J J lRes J (Qj (Xk ?_ ?_))))))
    · refine Ops.call1 (As := [travC om v, rsC x]) 8 goway (hW v hv x m hm) J J J (fun _ h => h.elim) J (fun p hp => absurd hp (by simp)) (fun q j hq => by rcases hq with hq | ⟨_, hq⟩ <;> cases hq) (fun m' hm' => ?_); refine Qj (XU (Q6 (n := 2) J J J J J Xm J (Qj (X1 ?_ Qf))))
      refine QW goContains_wr (Contains_wr (wy x) w (by have := hwl x; omega)) J J J J ?_
      refine Qj (Qo (Qm J J J (Qj (Xy (hK _ _ ?_))))); refine Qz (XZ J (fun h2 => ?_) (fun h2 => ?_))
      · rw [if_neg (by simp at h2; simp [h2])] at hs1 hs2; refine Qs (Qz (Qx fun K hK => ?_))
        refine Qk (iadd (by omega) (by omega)) J J J J ?_
        refine Qq J J J (Qj (hK _ _ (Q4 ?_))); clear hK K; refine Ql 6 (Q8 (i + 1, m') (by dsimp only; omega) ⟨by dsimp only; omega, hm'⟩ (by dsimp only; rw [hs1, hs2]; exact QX J ⟨rfl, rfl, rfl, rfl, rfl, rfl, by simp only [Int.natCast_add]; rfl, trivial⟩))
      have h2 : decide (w ∈ wy x) = true := by simpa using h2
      refine Q1 (Qz (Qw (Qx fun K hK => ?_))); refine QV J J J fS8 J (QY J J J J J lBool1 J (Qj (hK _ _ (Qz ?_)))); clear hK K; refine XZ J (fun h3 => ?_) (fun h3 => ?_)
      · rw [if_pos (by simp [h2, h3])] at hs1; rw [if_neg (by simp [h3])] at hs2; refine Qx (fun K hK => ?_); refine Qq J J J (Q6 (n := 17) J J J J J lRes J (QW Zh (Zo x) J J J J (X6 (n := 3) J J sIks J J (by decide) J ?_)))
        refine Qt (s1.map idOf).length (iks (s1.map idOf ++ [idOf x])) J J J J sIks (iks_len _) J (by rw [List.length_map]; omega) (by rw [List.length_map]; omega) (iks_snoc _ _) J ?_
        refine Qv J J J (Qj (hK _ _ (Qz ?_))); clear hK K; refine Qx (fun K hK => ?_)
        refine Qk (iadd (by omega) (by omega)) J J J J ?_
        refine Qq J J J (Qj (hK _ _ (Q4 ?_))); clear hK K; refine Ql 6 (Q8 (i + 1, m') (by dsimp only; omega) ⟨by dsimp only; omega, hm'⟩ (by dsimp only; rw [hs1, hs2, List.map_append]; exact QX J ⟨rfl, rfl, rfl, rfl, rfl, rfl, by simp only [Int.natCast_add]; rfl, trivial⟩))
      · rw [if_neg (by simp [h3])] at hs1; rw [if_pos (by simp [h2, h3])] at hs2; refine Qx (fun K hK => ?_); refine Qq J J J (Q6 (n := 17) J J J J J lRes J (QW Zh (Zo x) J J J J (X6 (n := 3) J J sIks J J (by decide) J ?_)))
        refine Qt (s2.map idOf).length (iks (s2.map idOf ++ [idOf x])) J J J J sIks (iks_len _) J (by rw [List.length_map]; omega) (by rw [List.length_map]; omega) (iks_snoc _ _) J ?_
        refine Qv J J J (Qj (hK _ _ (Qz ?_))); clear hK K; refine Qx (fun K hK => ?_)
        refine Qk (iadd (by omega) (by omega)) J J J J ?_
        refine Qq J J J (Qj (hK _ _ (Q4 ?_))); clear hK K; refine Ql 6 (Q8 (i + 1, m') (by dsimp only; omega) ⟨by dsimp only; omega, hm'⟩ (by dsimp only; rw [hs1, hs2, List.map_append]; exact QX J ⟨rfl, rfl, rfl, rfl, rfl, rfl, by simp only [Int.natCast_add]; rfl, trivial⟩))
    refine X1 ?_ Qf
    refine Q6 (n := 2) J J J J J Xm J (Qj (Xk ?_ Qf)); refine Ops.call1 (As := [travC om v, rsC x]) 8 goway (hW v hv x m hm) J J J (fun _ h => h.elim) J (fun p hp => absurd hp (by simp)) (fun q j hq => by rcases hq with hq | ⟨_, hq⟩ <;> cases hq) (fun m' hm' => ?_); refine Qj (X1 ?_ Qf)
    refine QW goContains_wr (Contains_wr (wy x) w (by have := hwl x; omega)) J J J J ?_
    refine Qj (Qo (Qm J J J (Qj (Xy (hK _ _ ?_))))); refine Qz (XZ J (fun h2 => ?_) (fun h2 => ?_))
    · rw [if_neg (by simp at h2; simp [h2])] at hs1 hs2; refine Qs (Qz (Qx fun K hK => ?_))
      refine Qk (iadd (by omega) (by omega)) J J J J ?_
      refine Qq J J J (Qj (hK _ _ (Q4 ?_))); clear hK K; refine Ql 6 (Q8 (i + 1, m') (by dsimp only; omega) ⟨by dsimp only; omega, hm'⟩ (by dsimp only; rw [hs1, hs2]; exact QX J ⟨rfl, rfl, rfl, rfl, rfl, rfl, by simp only [Int.natCast_add]; rfl, trivial⟩))
    have h2 : decide (w ∈ wy x) = true := by simpa using h2
    refine Q1 (Qz (Qw (Qx fun K hK => ?_))); refine QV J J J fS8 J (QY J J J J J lBool1 J (Qj (hK _ _ (Qz ?_)))); clear hK K; refine XZ J (fun h3 => ?_) (fun h3 => ?_)
    · rw [if_pos (by simp [h2, h3])] at hs1; rw [if_neg (by simp [h3])] at hs2; refine Qx (fun K hK => ?_); refine Qq J J J (Q6 (n := 17) J J J J J lRes J (QW Zh (Zo x) J J J J (X6 (n := 3) J J sIks J J (by decide) J ?_)))
      refine Qt (s1.map idOf).length (iks (s1.map idOf ++ [idOf x])) J J J J sIks (iks_len _) J (by rw [List.length_map]; omega) (by rw [List.length_map]; omega) (iks_snoc _ _) J ?_
      refine Qv J J J (Qj (hK _ _ (Qz ?_))); clear hK K; refine Qx (fun K hK => ?_)
      refine Qk (iadd (by omega) (by omega)) J J J J ?_
      refine Qq J J J (Qj (hK _ _ (Q4 ?_))); clear hK K; refine Ql 6 (Q8 (i + 1, m') (by dsimp only; omega) ⟨by dsimp only; omega, hm'⟩ (by dsimp only; rw [hs1, hs2, List.map_append]; exact QX J ⟨rfl, rfl, rfl, rfl, rfl, rfl, by simp only [Int.natCast_add]; rfl, trivial⟩))
    · rw [if_neg (by simp [h3])] at hs1; rw [if_pos (by simp [h2, h3])] at hs2; refine Qx (fun K hK => ?_); refine Qq J J J (Q6 (n := 17) J J J J J lRes J (QW Zh (Zo x) J J J J (X6 (n := 3) J J sIks J J (by decide) J ?_)))
      refine Qt (s2.map idOf).length (iks (s2.map idOf ++ [idOf x])) J J J J sIks (iks_len _) J (by rw [List.length_map]; omega) (by rw [List.length_map]; omega) (iks_snoc _ _) J ?_
      refine Qv J J J (Qj (hK _ _ (Qz ?_))); clear hK K; refine Qx (fun K hK => ?_)
      refine Qk (iadd (by omega) (by omega)) J J J J ?_
      refine Qq J J J (Qj (hK _ _ (Q4 ?_))); clear hK K; refine Ql 6 (Q8 (i + 1, m') (by dsimp only; omega) ⟨by dsimp only; omega, hm'⟩ (by dsimp only; rw [hs1, hs2, List.map_append]; exact QX J ⟨rfl, rfl, rfl, rfl, rfl, rfl, by simp only [Int.natCast_add]; rfl, trivial⟩))
  · have hi' : i = o.length := by omega
    rw [hi', List.take_length]; have hf1 := List.length_filter_le (fun r => decide (w ∈ wy r) && (r.an == true)) o; have hf2 := List.length_filter_le (fun r => decide (w ∈ wy r) && (r.an == false)) o; generalize o.filter (fun r => decide (w ∈ wy r) && (r.an == true)) = s1 at e hf1 ⊢; generalize o.filter (fun r => decide (w ∈ wy r) && (r.an == false)) = s2 at e hf2 ⊢; refine Qs (Qz (Qw (Qw (Qx fun K hK => ?_)))); refine Qq J J J (ZZ _ J J J (by decide) (iks_len _) sIks.und J ?_); refine Qq J J J (ZZ _ J J J (by decide) (iks_len _) sIks.und J ?_); rw [List.length_map, List.length_map]
    refine Qk (iadd (by omega) (by omega)) J J J J ?_
    refine Qk ieql J J J J (Qj (hK _ _ (Qz ?_))); clear hK K; refine Q2 J (fun h2 => ?_) (fun h2 => ?_)
    · rw [if_pos (by omega)] at e; refine Qw (Qx fun K hK => ?_); refine Qv J J J (Qv J J J (Qv J J J (Qj (hK _ _ (Qz (Q0 (QZ ?_))))))); clear hK K; refine QU [_, _, _] rfl (Xj X5 (Qu J (Xj X5 (Qu J (Qu J QQ))))) (by rw [e]; rfl) J
    · rw [if_neg (by omega)] at e; refine Q1 (Qz (Qw (Qx fun K hK => ?_))); refine Qq J J J (Qq J J J (Qv J J J (Qv J J J (Qv J J J (Qj (hK _ _ (Qz (Q0 ?_)))))))); clear hK K; refine Z6 2 _ J (iks_frozen _ _) noBor_sub (Z6 4 _ J (iks_frozen _ _) noBor_sub (QU [_, _, _] rfl (Qu J (Qu J (Qu J QQ))) (by rw [e]; rfl) J))
theorem gocounted : InGo Tryz.prog 38 := InGo.of Tryz.func38 rfl (by decide)
theorem counted_ok (w : Wr) (a b n : Int) (ha : 0 ≤ a ∧ a ≤ 100000) (hb : 0 ≤ b ∧ b ≤ 100000) (hn : 0 ≤ n ∧ n ≤ 1048576) : Ok Tryz.prog 38 [wrC w, csC (a, b), intC n] (cnC ⟨w, a, max 0 (b - n), b⟩) := by
  refine Ok.enter Tryz.func38 J _ Tryz.ntmps38 J ?_
  intro S w0; refine Qw (Qx (fun K hK => ?_)); refine Xz 0 J J J J J J J (Xz 1 J J J J J J J (Qg 2 J J zvCn J J J (Qj (hK _ _ (Qz (Qw ?_)))))); clear hK K; refine Qx (fun K hK => ?_); refine Q6 (n := 2) J J J J J Xm J (QV J J J fCs0 J (QY J J J J J lInt J (QV J J J fCs1 J (QY J J J J J lInt J (Qq J J J (Qk (isub (by omega) (by omega)) J J J J ?_)))))); refine Ops.max2 J J J J (QV J J J fCs1 J (QY J J J J J lInt J (Qi J bCn J (.agg J J J J (.one J J J J (.one J J J J (.one J J J J .nil)))) J (Qa 5 J J J J J szCn J J (Qj (hK _ _ (Qz (Q0 ?_)))))))); clear hK K; refine QU [_] rfl (Qc (n := 5) J J lCn J QQ) J J
theorem goCount : InGo Tryz.prog 12 := InGo.of Tryz.func12 rfl (by decide)
set_option maxHeartbeats 4000000 in
theorem Count_ok (l : List Rs) (hl : l.length ≤ 10000) (w : Wr) (n : Int) : Ok Tryz.prog 12 [rssC l, wrC w, intC n] (.fr (tupT [cnC (cntF l w n).1, intC (cntF l w n).2])) := by
  have hX := Crosses_ok l hl w
  have hlen : ∀ b, (crsF l w b).length ≤ 10000 := fun b => by
    have := Yv cmpR (l.filter okR); have := List.length_filter_le okR l; have := List.length_filter_le (fun r => decide (w ∈ wayF l r) && (r.an == b)) (sd cmpR (l.filter okR)); unfold crsF; omega
  have e : cntF l w n = if n < 0 ∨ 1048576 < n then (cn0, 1) else if ¬ (crO l w).2.2 = 0 then (cn0, (crO l w).2.2) else (⟨w, ((crO l w).1.length : Int) + (crO l w).2.1.length, max 0 ((crO l w).2.1.length - n), (crO l w).2.1.length⟩, 0) := by
    unfold cntF crO; by_cases h0 : n < 0 ∨ 1048576 < n
    · rw [if_pos h0, if_pos h0]
    rw [if_neg h0, if_neg h0]; by_cases h1 : chkF l = 0
    · by_cases h2 : (crsF l w true).length + (crsF l w false).length = 0
      · simp only [ne_eq, h1, h2, not_true_eq_false, if_false, if_true, reduceIte]; rfl
      · simp only [ne_eq, h1, h2, not_true_eq_false, if_false, if_true, reduceIte, List.length_map]
    · simp only [ne_eq, h1, not_false_eq_true, if_true, reduceIte]
  have hl1 : (crO l w).1.length ≤ 10000 ∧ (crO l w).2.1.length ≤ 10000 := by
    unfold crO; have h1 := hlen true; have h2 := hlen false; split
    · simp
    · split
      · simp
      · simp only [List.length_map]; exact ⟨h1, h2⟩
  generalize cntF l w n = out at e ⊢; generalize crO l w = c at hX e hl1; obtain ⟨s, t, c⟩ := c; dsimp only at hX e hl1
  refine Ok.enter Tryz.func12 J _ Tryz.ntmps12 J ?_
  intro S w0; refine Qw (Qx (fun K hK => ?_)); refine Xz 0 J J J J J J J (Qg 1 J J zvCn J J J (Qv J J J (Qj (hK _ _ (Qz (Qw (Qw ?_))))))); clear hK K; refine Qx (fun K hK => ?_); refine Qq J J J (Qk ilss J J J J (Qq J J J (Q7 13 J (fun h1 => ?_) (fun h1 => ?_))))
  · rw [if_pos (.inl h1)] at e; refine Qy J J J (Qy J J J (QJ J J J J (Qj (hK _ _ (Qz (Qp J (Qw ?_))))))); clear hK K; refine Qx (fun K hK => ?_); refine Qi J bCn J .nil J (Qa 5 J J J J J szCn J J (Qv J J J (Qj (hK _ _ (Qz (Q0 (QZ ?_))))))); clear hK K; refine QU [_, _] rfl (Qc (n := 5) J J lCn J (Qu J QQ)) (by rw [e]; rfl) J
  refine Qq J J J (Qk igtr J J J J (QK J J J J (Qj (hK _ _ (Qz ?_))))); clear hK K; refine Q2 J (fun h2 => ?_) (fun h2 => ?_)
  · rw [if_pos (.inr h2)] at e; refine Qw (Qx fun K hK => ?_); refine Qi J bCn J .nil J (Qa 5 J J J J J szCn J J (Qv J J J (Qj (hK _ _ (Qz (Q0 (QZ ?_))))))); clear hK K; refine QU [_, _] rfl (Qc (n := 5) J J lCn J (Qu J QQ)) (by rw [e]; rfl) J
  rw [if_neg (fun h => h.elim h1 h2)] at e; refine Q1 (Qz (Qw (Qx fun K hK => ?_))); refine Qq J J J (Q6 (n := 2) J J J J J Xm J (QW goCrosses hX J J J J (Qq J J J (Q9 J J J J (Q9 J J J J (Q9 J J J J (Qv J J J (Qv J J J (Qv J J J (Qj (hK _ _ (Qz (Qw (Qw ?_)))))))))))))); clear hK K; refine Qx (fun K hK => ?_); refine Qq J J J (Qk ineq J J J J (Qj (hK _ _ (Qz ?_)))); clear hK K; refine Q2 J (fun h3 => ?_) (fun h3 => ?_)
  · rw [if_pos h3] at e; refine Qw (Qx fun K hK => ?_); refine Qi J bCn J .nil J (Qq J J J (Qa 5 J J J J J szCn J J (Qv J J J (Qj (hK _ _ (Qz (Q0 (QZ ?_)))))))); clear hK K; refine QU [_, _] rfl (Qc (n := 5) J J lCn J (Qu J QQ)) (by rw [e]; rfl) J
  rw [if_neg h3] at e; refine Q1 (Qz (Qw (Qx fun K hK => ?_))); refine Q6 (n := 2) J J J J J Xm J (Qq J J J (Qb J J sIks.und (List.length_map ..) J (Qq J J J (Qb J J sIks.und (List.length_map ..) J (Qk (iadd (by omega) (by omega)) J J J J ?_))))); refine Qq J J J (Qb J J sIks.und (List.length_map ..) J (Qi J bCs J (.one J J J J (.one J J J J .nil)) J (Qq J J J (QW gocounted (counted_ok w (s.length + t.length) t.length n (by omega) (by omega) (by omega)) J J J J ?_)))); refine Qa 5 J J J J J szCn J J (Qv J J J (Qj (hK _ _ (Qz (Q0 ?_))))); clear hK K; refine QU [_, _] rfl (Qc (n := 5) J J lCn J (Qu J QQ)) (by rw [e]; rfl) J
def cntR (l : List Rs) (w : Wr) (n : Int) : Cn × Int :=
  if bdB n = false then (cn0, 1) else if ¬ (crRO l w).2.2 = 0 then (cn0, (crRO l w).2.2)
  else (⟨w, ((crRO l w).1.length : Int) + (crRO l w).2.1.length, max 0 ((crRO l w).2.1.length - n), (crRO l w).2.1.length⟩, 0)
theorem csR_len (l : List Rs) (w : Wr) (b : Bool) : (csR l w b).length ≤ l.length := by
  have := Yv cmpR (l.filter okR); have := List.length_filter_le okR l; have := List.length_filter_le (fun r => crR l r w && (r.an == b)) (sd cmpR (l.filter okR)); unfold csR; omega
theorem crRO_len (l : List Rs) (w : Wr) : (crRO l w).1.length ≤ l.length ∧ (crRO l w).2.1.length ≤ l.length := by
  have h1 := csR_len l w true; have h2 := csR_len l w false; unfold crRO; split
  · simp
  · split
    · simp
    · simp only [List.length_map]; exact ⟨h1, h2⟩
theorem gorCount : InGo Tryz.prog 29 := InGo.of Tryz.func29 rfl (by decide)
set_option maxHeartbeats 8000000 in
theorem rCount_ok (l : List Rs) (hl : l.length ≤ 10000) (w : Wr) (n : Int) : Ok Tryz.prog 29 [rssC l, wrC w, intC n] (.fr (tupT [cnC (cntR l w n).1, intC (cntR l w n).2])) := by
  have hX := rCrosses_ok l hl w; have hB := rbudgets_ok n; have hl1 := crRO_len l w
  have hbd : bdB n = true → 0 ≤ n ∧ n ≤ 1048576 := fun h => by unfold bdB at h; simpa using h
  have e : cntR l w n = if bdB n = false then (cn0, 1) else if ¬ (crRO l w).2.2 = 0 then (cn0, (crRO l w).2.2)
    else (⟨w, ((crRO l w).1.length : Int) + (crRO l w).2.1.length, max 0 ((crRO l w).2.1.length - n), (crRO l w).2.1.length⟩, 0) := rfl
  generalize cntR l w n = out at e ⊢; generalize crRO l w = c at hX e hl1; generalize bdB n = b at hB hbd e; obtain ⟨s, t, c⟩ := c; dsimp only at hX e hl1
  refine Ok.enter Tryz.func29 J _ Tryz.ntmps29 J ?_
  intro S w0; refine Qw (Qx (fun K hK => ?_)); refine Xz 0 J J J J J J J (Qg 1 J J zvCn J J J (Qv J J J (Qj (hK _ _ (Qz (Qw (Qw ?_))))))); clear hK K; refine Qx (fun K hK => ?_); refine Qq J J J (QW gorbudgets hB J J J J (Qm J J J (Qj (hK _ _ (Qz ?_))))); clear hK K; refine XZ J (fun h1 => ?_) (fun h1 => ?_)
  · rw [if_pos (by cases b with | true => cases h1 | false => rfl)] at e; refine Qw (Qx fun K hK => ?_); refine Qi J bCn J .nil J (Qa 5 J J J J J szCn J J (Qv J J J (Qj (hK _ _ (Qz (Q0 (QZ ?_))))))); clear hK K; refine QU [_, _] rfl (Qc (n := 5) J J lCn J (Qu J QQ)) (by rw [e]; rfl) J
  have hb : b = true := by cases b with | true => rfl | false => cases h1
  have hn := hbd hb; rw [if_neg (by rw [hb]; decide)] at e; refine Q1 (Qz (Qw (Qx fun K hK => ?_))); refine Qq J J J (Q6 (n := 2) J J J J J Xm J (QW gorCrosses hX J J J J (Qq J J J (Q9 J J J J (Q9 J J J J (Q9 J J J J (Qv J J J (Qv J J J (Qv J J J (Qj (hK _ _ (Qz (Qw (Qw ?_)))))))))))))); clear hK K; refine Qx (fun K hK => ?_); refine Qq J J J (Qk ineq J J J J (Qj (hK _ _ (Qz ?_)))); clear hK K; refine Q2 J (fun h3 => ?_) (fun h3 => ?_)
  · rw [if_pos h3] at e; refine Qw (Qx fun K hK => ?_); refine Qi J bCn J .nil J (Qq J J J (Qa 5 J J J J J szCn J J (Qv J J J (Qj (hK _ _ (Qz (Q0 (QZ ?_)))))))); clear hK K; refine QU [_, _] rfl (Qc (n := 5) J J lCn J (Qu J QQ)) (by rw [e]; rfl) J
  rw [if_neg h3] at e; refine Q1 (Qz (Qw (Qx fun K hK => ?_))); refine Q6 (n := 2) J J J J J Xm J (Qq J J J (Qb J J sIks.und (List.length_map ..) J (Qq J J J (Qb J J sIks.und (List.length_map ..) J (Qk (iadd (by omega) (by omega)) J J J J ?_))))); refine Qq J J J (Qb J J sIks.und (List.length_map ..) J (Qq J J J (Qk (isub (by omega) (by omega)) J J J J ?_))); refine Ops.max2 J J J J (Qq J J J (Qb J J sIks.und (List.length_map ..) J (Qi J bCn J (.agg J J J J (.one J J J J (.one J J J J (.one J J J J .nil)))) J (Qa 5 J J J J J szCn J J (Qv J J J (Qj (hK _ _ (Qz (Q0 ?_))))))))); clear hK K; refine QU [_, _] rfl (Qc (n := 5) J J lCn J (Qu J QQ)) (by rw [e]; rfl) J
def fiR24 (l : List Rs) (id : Ik) : Rs × Bool := match (sd cmpR (l.filter okR)).find? fun r => decide (idOf r = id) with
  | some r => (r, true)
  | none => (rs0, false)
theorem gorFind : InGo Tryz.prog 112 := InGo.of Tryz.func112 rfl (by decide)
theorem find_at {α : Type} {z : α} {p : α → Bool} {l : List α} {i : Nat} (hi : i < l.length) (h1 : p (l.getD i z) = true) (h2 : ∀ j, j < i → p (l.getD j z) = false) : l.find? p = some (l.getD i z) := by
  rw [List.getD_eq_getElem?_getD, List.getElem?_eq_getElem hi, Option.getD_some] at h1 ⊢
  refine List.find?_eq_some_iff_getElem.2 ⟨h1, i, hi, rfl, fun j hj => ?_⟩
  have := h2 j hj; rw [List.getD_eq_getElem?_getD, List.getElem?_eq_getElem (by omega), Option.getD_some] at this; rw [this]; rfl
theorem find_none {α : Type} {z : α} {p : α → Bool} {l : List α} (h2 : ∀ j, j < l.length → p (l.getD j z) = false) : l.find? p = none := by
  refine List.find?_eq_none.2 fun x hx h => ?_
  obtain ⟨j, hj, rfl⟩ := List.getElem_of_mem hx; have := h2 j hj; rw [List.getD_eq_getElem?_getD, List.getElem?_eq_getElem hj, Option.getD_some] at this; rw [this] at h; cases h
set_option maxHeartbeats 8000000 in
theorem rFind_ok (l : List Rs) (hl : l.length ≤ 10000) (id : Ik) : Ok Tryz.prog 112 [rssC l, ikC id] (.fr (tupT [rsC (fiR24 l id).1, boolC (fiR24 l id).2])) := by
  have hO := rOrd24_ok l hl; rw [ord_sd l] at hO
  have hol : (sd cmpR (l.filter okR)).length ≤ 10000 := by
    have := Yv cmpR (l.filter okR); have := List.length_filter_le okR l; omega
  have e : fiR24 l id = match (sd cmpR (l.filter okR)).find? fun r => decide (idOf r = id) with
    | some r => (r, true)
    | none => (rs0, false) := rfl
  generalize fiR24 l id = out at e ⊢; generalize sd cmpR (l.filter okR) = o at hO e hol
  refine Ok.enter Tryz.func112 J _ Tryz.ntmps112 J ?_
  intro S w; refine Qw (Qx (fun K hK => ?_)); refine Xz 0 J J J J J J J (Qg 1 J J zvRes J J J (Qv J J J (Qj (hK _ _ (Qz (Qw ?_)))))); clear hK K; refine Qx (fun K hK => ?_); refine Qq J J J (QW gorOrd24 hO J J J J (Qv J J J (Qj (hK _ _ (Qz (Qw (Qw ?_))))))); clear hK K; refine Qx (fun K hK => ?_); refine Qv J J J (Qj (hK _ _ (Qz (Q5 ?_)))); clear hK K
  refine Xx (α := Nat) (fun i => i ≤ o.length ∧ ∀ j, j < i → decide (idOf (o.getD j rs0) = id) = false)
    (fun i => [(3, .own 0), (4, .own 1), (6, .ct (rssC o)), (7, .ct (intC i))])
    (fun _ => [(1, .box 35 (List.map CT.ex zRes.cells.toList)), (0, .box 124 (ikCs id))]) (fun i => o.length - i) 0 ⟨Nat.zero_le _, fun j h => absurd h (Nat.not_lt_zero _)⟩ (by exact QX J ⟨rfl, rfl, rfl, rfl, trivial⟩) ?_
  rintro i ⟨hi, hv⟩
  dsimp only at hi hv ⊢; refine Qw (Qw (Qx fun K hK => ?_)); refine Qq J J J (Qq J J J (Qb J J sRes.und (List.length_map ..) J (Qk ilss J J J J (Qj (hK _ _ (Qz ?_)))))); clear hK K; refine Q2 J (fun h => ?_) (fun h => ?_)
  · have e2 : (i : Int).toNat = i := Int.toNat_natCast i; refine Q1 (Qz (Qw (Q5 (Qw ?_)))); refine Xw mixed 7 (.p 0 (.p 1 (.p 2 (.f 3 (.f 5 (.m 4 (.p 6 .done))))))) (by kernel_rfl) (fun K hK => ?_); refine Qq J J J (Qq J J J (Qh J J J sRes (by omega) (Xd (by omega) (by omega)) J ?_))
    refine XX (n := 17) J J J lRes J J ?_
    rw [e2]; refine Q6 (n := 3) J J J J J lID J (QW gorIdentity (rIdentity_ok (o.getD i rs0)) J J J J (eqIk (idOf (o.getD i rs0)) id J J J J J (Qj (hK _ _ (Qz ?_))))); clear hK K; refine Q2 J (fun h2 => ?_) (fun h2 => ?_)
    · rw [find_at (z := rs0) (i := i) (by omega) (decide_eq_true h2) hv] at e; refine Qw (Qx fun K hK => ?_); refine Qq J J J (Qq J J J (Qh J J J sRes (by omega) (Xd (by omega) (by omega)) J ?_)); refine XX (n := 17) J J J lRes J J (Qa 17 J J J J J Z4 J J (Qv J J J (Qj (hK _ _ (Qz (Q0 (Q3 (QZ (QZ (Q3 (QZ ?_))))))))))); clear hK K
      try rw [e2]
      refine QU [_, _] rfl (Qc (n := 17) J J lRes J (Qu J QQ)) (by rw [e]; rfl) J
    · refine Q1 (Qz (Qx fun K hK => ?_)); refine Qq J J J (Qk (iadd (by omega) (by omega)) J J J J ?_); refine Qv J J J (Qj (hK _ _ (Q4 ?_))); clear hK K; refine Q8 (i + 1) (by omega) ⟨by omega, fun j hj => by rcases Nat.lt_succ_iff_lt_or_eq.1 hj with h4 | h4; exact hv j h4; subst h4; exact decide_eq_false h2⟩ (by exact QX J ⟨rfl, rfl, rfl, by simp only [Int.natCast_add]; rfl, trivial⟩)
  have hi' : i = o.length := by omega
  rw [find_none (z := rs0) (fun j hj => hv j (by omega))] at e; refine Qs (Qz (Qw (Qx fun K hK => ?_))); refine Qi J bRes J .nil J (Qa 17 J J J J J Z4 J J (Qv J J J (Qj (hK _ _ (Qz (Q0 ?_)))))); clear hK K; refine QU [_, _] rfl (Qc (n := 17) J J lRes J (Qu J QQ)) (by rw [e]; rfl) J
def lsR (l : List Rs) (w : Wr) (an : Bool) : Bool → Rs → List Ik → Bool
  | _, _, [] => true
  | hs, la, id :: ids => (fiR24 l id).2 && (((fiR24 l id).1.an == an) && (crR l (fiR24 l id).1 w && (!(hs && decide (0 ≤ cmpR la (fiR24 l id).1)) && lsR l w an true (fiR24 l id).1 ids)))
theorem gorlisted : InGo Tryz.prog 69 := InGo.of Tryz.func69 rfl (by decide)
set_option maxHeartbeats 8000000 in
theorem rlisted_ok (l : List Rs) (hl : l.length ≤ 10000) (w : Wr) (ids : List Ik) (an : Bool) (hi : ids.length ≤ 4000000000) : Ok Tryz.prog 69 [rssC l, wrC w, iksC ids, boolC an] (boolC (lsR l w an false rs0 ids)) := by
  have hF := rFind_ok l hl
  have hX := fun r => rcrosses_ok l hl r w
  refine Ok.enter Tryz.func69 J _ Tryz.ntmps69 J ?_
  intro S w0; refine Qw (Qx (fun K hK => ?_)); refine Xz 0 J J J J J J J (Qv J J J (Qj (hK _ _ (Qz (Qw ?_))))); clear hK K; refine Qx (fun K hK => ?_); refine Qg 1 J J zvRes J J J (Qj (hK _ _ (Qz (Qw (Qw ?_))))); clear hK K; refine Qx (fun K hK => ?_); refine Qv J J J (Qj (hK _ _ (Qz (Q5 ?_)))); clear hK K
  refine Xx (α := Nat × Rs) (fun q => q.1 ≤ ids.length ∧ lsR l w an (decide (0 < q.1)) q.2 (ids.drop q.1) = lsR l w an false rs0 ids)
    (fun q => [(0, .ct (rssC l)), (2, .ct (iksC ids)), (3, .ct (boolC an)), (5, .own 0), (9, .own 1), (10, .ct (intC q.1))])
    (fun q => [(1, .box 35 (rsCs q.2)), (0, .box 37 (wrCs w))]) (fun q => ids.length - q.1) (0, rs0) ⟨Nat.zero_le _, rfl⟩ (by exact QX J ⟨rfl, rfl, rfl, rfl, rfl, rfl, trivial⟩) ?_
  rintro ⟨i, la⟩ ⟨hil, hv⟩
  dsimp only at hil hv ⊢; generalize lsR l w an false rs0 ids = out at hv ⊢; refine Qw (Qw (Qx fun K hK => ?_)); refine Qq J J J (Qq J J J (Qb J J sIks.und (List.length_map ..) J (Qk ilss J J J J (Qj (hK _ _ (Qz ?_)))))); clear hK K; refine Q2 J (fun h => ?_) (fun h => ?_); rotate_left
  · rw [List.drop_of_length_le (by omega)] at hv; refine Qs (Qz (Qw (Qx fun K hK => ?_))); refine Qv J J J (Qj (hK _ _ (Qz (Q0 ?_)))); clear hK K; refine QU [_] rfl (Qu J QQ) (by rw [← hv]; rfl) J
  have e2 : (i : Int).toNat = i := Int.toNat_natCast i; rw [dropA (z := ik0) (l := ids) (i := i) (by omega)] at hv; unfold lsR at hv; generalize hid : ids.getD i ik0 = id at hv; have hF1 := hF id; generalize fiR24 l id = f at hF1 hv; obtain ⟨r, ok⟩ := f; dsimp only at hF1 hv; have hX1 := hX r; generalize crR l r w = cx at hX1 hv; refine Q1 (Qz (Qw (Q5 (Qw (Qx fun K hK => ?_))))); refine Qq J J J (Qq J J J (Qq J J J (Qh J J J sIks (by omega) (iks_at (by omega) (by omega)) J ?_)))
  refine XX (n := 3) J J J lID J J ?_
  rw [e2, hid]; refine QW gorFind hF1 J J J J (Qq J J J (Q9 J J J J (Q9 J J J J (Qg 2 J J zvRes J J J (Qa 17 J J J J J Z4 J J (Qv J J J (Qj (hK _ _ (Qz (Qw (Qw ?_))))))))))); clear hK K; refine Qx (fun K hK => ?_); refine Qq J J J (Qm J J J (Qq J J J ?_))
  cases ok with
  | false =>
    rw [Bool.false_and] at hv; refine Qy J J J (Qy J J J (Qy J J J (Qy J J J (QJ J J J J (Qq J J J (Qy J J J (Qy J J J (Qy J J J (Qy J J J (Qy J J J (QJ J J J J (Qq J J J (Qy J J J (Qy J J J (Qy J J J (Qy J J J (Qy J J J (Qy J J J (Qy J J J (Qy J J J (QJ J J J J (Qj (hK _ _ (Qz (Qp J (Qw ?_)))))))))))))))))))))))))); clear hK K; refine Qx (fun K hK => ?_); refine Qv J J J (Qj (hK _ _ (Qz (Q0 (QZ (Q3 (QZ (QZ (Q3 (QZ ?_)))))))))); clear hK K; refine QU [_] rfl (Qu J QQ) (by rw [← hv]; rfl) J
  | true =>
  rw [Bool.true_and] at hv; refine QV J J J fS8 J (QY J J J J J lBool1 J (Qq J J J (Ops.bne J J J Tryz.underlying4 J (QK J J J J (Qq J J J (X3 36 J (fun h1 => ?_) (fun h1 => ?_)))))))
  · rw [show (r.an == an) = false by revert h1; cases r.an <;> cases an <;> decide, Bool.false_and] at hv; refine Qy J J J (Qy J J J (Qy J J J (Qy J J J (Qy J J J (QJ J J J J (Qq J J J (Qy J J J (Qy J J J (Qy J J J (Qy J J J (Qy J J J (Qy J J J (Qy J J J (Qy J J J (QJ J J J J (Qj (hK _ _ (Qz (Qp J (Qw ?_)))))))))))))))))))); clear hK K; refine Qx (fun K hK => ?_); refine Qv J J J (Qj (hK _ _ (Qz (Q0 (QZ (Q3 (QZ (QZ (Q3 (QZ ?_)))))))))); clear hK K; refine QU [_] rfl (Qu J QQ) (by rw [← hv]; rfl) J
  rw [show (r.an == an) = true by revert h1; cases r.an <;> cases an <;> decide, Bool.true_and] at hv; refine Qq J J J (Q6 (n := 17) J J J J J lRes J (Q6 (n := 2) J J J J J Xm J (QW gorcrosses hX1 J J J J (Qm J J J (QK J J J J (Qq J J J ?_))))))
  cases cx with
  | false =>
    rw [Bool.false_and] at hv; refine Qy J J J (Qy J J J (Qy J J J (Qy J J J (Qy J J J (Qy J J J (Qy J J J (Qy J J J (QJ J J J J (Qj (hK _ _ (Qz (Qp J (Qw ?_))))))))))))); clear hK K; refine Qx (fun K hK => ?_); refine Qv J J J (Qj (hK _ _ (Qz (Q0 (QZ (Q3 (QZ (QZ (Q3 (QZ ?_)))))))))); clear hK K; refine QU [_] rfl (Qu J QQ) (by rw [← hv]; rfl) J
  | true =>
  rw [Bool.true_and] at hv; refine Qq J J J (Qk igtr J J J J (Qq J J J (Q7 46 J (fun h2 => ?_) (fun h2 => ?_)))); rotate_left
  · rw [decide_eq_false (show ¬ 0 < i by omega), Bool.false_and, Bool.not_false, Bool.true_and] at hv; refine Qy J J J (Qy J J J (Qy J J J (Qy J J J (QK J J J J (QK J J J J (Qj (hK _ _ (Qz (Xv J (Q1 (Qz ?_))))))))))); clear hK K; refine Qx (fun K hK => ?_); refine Q6 (n := 17) J J J J J lRes J (Qa 17 J J J J J Z4 J J (Qj (hK _ _ (Qz ?_)))); clear hK K; refine Qx (fun K hK => ?_); refine Qq J J J (Qk (iadd (by omega) (by omega)) J J J J ?_); refine Qv J J J (Qj (hK _ _ (Q4 ?_))); clear hK K; refine Ql 2 (Q8 (i + 1, r) (by dsimp only; omega) ⟨by dsimp only; omega, by dsimp only; rw [decide_eq_true (Nat.succ_pos i)]; exact hv⟩ (by exact QX J ⟨rfl, rfl, rfl, rfl, rfl, by simp only [Int.natCast_add]; rfl, trivial⟩))
  rw [decide_eq_true (show 0 < i by omega), Bool.true_and] at hv; refine Q6 (n := 17) J J J J J lRes J (Q6 (n := 17) J J J J J lRes J (QW gorCmpR (rcmpR_ok la r) J J J J (Qk igeq J J J J (QJ J J J J (QK J J J J (Qj (hK _ _ (Qz ?_)))))))); clear hK K; refine Q2 J (fun h3 => ?_) (fun h3 => ?_)
  · rw [decide_eq_true h3, Bool.not_true, Bool.false_and] at hv; refine Qw (Qx fun K hK => ?_); refine Qv J J J (Qj (hK _ _ (Qz (Q0 (QZ (Q3 (QZ (QZ (Q3 (QZ ?_)))))))))); clear hK K; refine QU [_] rfl (Qu J QQ) (by rw [← hv]; rfl) J
  · rw [decide_eq_false h3, Bool.not_false, Bool.true_and] at hv; refine Q1 (Qz (Qx fun K hK => ?_)); refine Q6 (n := 17) J J J J J lRes J (Qa 17 J J J J J Z4 J J (Qj (hK _ _ (Qz ?_)))); clear hK K; refine Qx (fun K hK => ?_); refine Qq J J J (Qk (iadd (by omega) (by omega)) J J J J ?_); refine Qv J J J (Qj (hK _ _ (Q4 ?_))); clear hK K; refine Ql 2 (Q8 (i + 1, r) (by dsimp only; omega) ⟨by dsimp only; omega, by dsimp only; rw [decide_eq_true (Nat.succ_pos i)]; exact hv⟩ (by exact QX J ⟨rfl, rfl, rfl, rfl, rfl, by simp only [Int.natCast_add]; rfl, trivial⟩))
def hoR (l : List Rs) (n : Int) (c : Cn) (s t : List Ik) : Bool :=
  bdB n && (decide (chkR l = 0) && (lsR l c.wr true false rs0 s && (lsR l c.wr false false rs0 t && (decide ((t.length : Int) ≤ c.hi) && (decide (c.se = s.length + t.length) && decide (c.lo ≤ max 0 (t.length - n)))))))
theorem gorHolds : InGo Tryz.prog 32 := InGo.of Tryz.func32 rfl (by decide)
set_option maxHeartbeats 16000000 in
theorem rHolds_ok (l : List Rs) (hl : l.length ≤ 10000) (n : Int) (c : Cn) (s t : List Ik) (hs : s.length ≤ 4000000000) (ht : t.length ≤ 4000000000) : Ok Tryz.prog 32 [rssC l, intC n, cnC c, iksC s, iksC t] (boolC (hoR l n c s t)) := by
  have hC := rcheck_ok l hl; have hB := rbudgets_ok n
  have hbd : bdB n = true → 0 ≤ n ∧ n ≤ 1048576 := fun h => by unfold bdB at h; simpa using h
  have hL1 := rlisted_ok l hl c.wr s true hs; have hL2 := rlisted_ok l hl c.wr t false ht; have e : hoR l n c s t = (bdB n && (decide (chkR l = 0) && (lsR l c.wr true false rs0 s && (lsR l c.wr false false rs0 t && (decide ((t.length : Int) ≤ c.hi) && (decide (c.se = s.length + t.length) && decide (c.lo ≤ max 0 (t.length - n)))))))) := rfl; generalize hoR l n c s t = out at e ⊢; generalize chkR l = k at hC e; generalize bdB n = b at hB hbd e; generalize lsR l c.wr true false rs0 s = b1 at hL1 e; generalize lsR l c.wr false false rs0 t = b2 at hL2 e
  refine Ok.enter Tryz.func32 J _ Tryz.ntmps32 J ?_
  intro S w0; refine Qw (Qx (fun K hK => ?_)); refine Xz 0 J J J J J J J (Qv J J J (Qj (hK _ _ (Qz (Qw (Qw ?_)))))); clear hK K; refine Qx (fun K hK => ?_); refine Qq J J J (QW gorbudgets hB J J J J (Qm J J J (Qq J J J ?_)))
  cases b with
  | false =>
    rw [Bool.false_and] at e; refine Qy J J J (Qy J J J (Qy J J J (QJ J J J J (Qq J J J (Qy J J J (Qy J J J (Qy J J J (Qy J J J (Qy J J J (Qy J J J (QJ J J J J (Qq J J J (Qy J J J (Qy J J J (Qy J J J (Qy J J J (Qy J J J (Qy J J J (QJ J J J J (Qj (hK _ _ (Qz (Qp J (Qw ?_)))))))))))))))))))))))); clear hK K; refine Qx (fun K hK => ?_); refine Qv J J J (Qj (hK _ _ (Qz (Q0 (QZ ?_))))); clear hK K; refine QU [_] rfl (Qu J QQ) (by rw [e]; rfl) J
  | true =>
  have hn := hbd J; rw [Bool.true_and] at e; refine Qq J J J (QW gorcheck hC J J J J (Qk ineq J J J J (QK J J J J (Qq J J J (Q7 19 J (fun h3 => ?_) (fun h3 => ?_))))))
  · rw [decide_eq_false h3, Bool.false_and] at e; refine Qy J J J (Qy J J J (Qy J J J (Qy J J J (Qy J J J (Qy J J J (QJ J J J J (Qq J J J (Qy J J J (Qy J J J (Qy J J J (Qy J J J (Qy J J J (Qy J J J (QJ J J J J (Qj (hK _ _ (Qz (Qp J (Qw ?_))))))))))))))))))); clear hK K; refine Qx (fun K hK => ?_); refine Qv J J J (Qj (hK _ _ (Qz (Q0 (QZ ?_))))); clear hK K; refine QU [_] rfl (Qu J QQ) (by rw [e]; rfl) J
  rw [decide_eq_true (Decidable.not_not.1 h3), Bool.true_and] at e; refine Qq J J J (QV J J J fCn0 J (Ops.ldNA (n := 2) J J J J (Nat.le_of_ble_eq_true J) Xm J (Qq J J J (QW gorlisted hL1 J J J J (Qm J J J (QK J J J J (Qq J J J ?_)))))))
  cases b1 with
  | false =>
    rw [Bool.false_and] at e; refine Qy J J J (Qy J J J (Qy J J J (Qy J J J (Qy J J J (Qy J J J (QJ J J J J (Qj (hK _ _ (Qz (Qp J (Qw ?_))))))))))); clear hK K; refine Qx (fun K hK => ?_); refine Qv J J J (Qj (hK _ _ (Qz (Q0 (QZ ?_))))); clear hK K; refine QU [_] rfl (Qu J QQ) (by rw [e]; rfl) J
  | true =>
  rw [Bool.true_and] at e; refine Qq J J J (QV J J J fCn0 J (Ops.ldNA (n := 2) J J J J (Nat.le_of_ble_eq_true J) Xm J (Qq J J J (QW gorlisted hL2 J J J J (Qm J J J (QK J J J J (Qj (hK _ _ (Qz ?_))))))))); clear hK K
  cases b2 with
  | false =>
    rw [Bool.false_and] at e; refine Qp J (Qw (Qx fun K hK => ?_)); refine Qv J J J (Qj (hK _ _ (Qz (Q0 (QZ ?_))))); clear hK K; refine QU [_] rfl (Qu J QQ) (by rw [e]; rfl) J
  | true =>
  rw [Bool.true_and] at e; refine Xv J (Q1 (Qz (Qw (Qx fun K hK => ?_)))); refine QV J J J fCn3 J (QY J J J J J lInt J (Qq J J J (Qb J J sIks.und (List.length_map ..) J (Qk igeq J J J J (Qq J J J (Q7 40 J (fun g3 => ?_) (fun g3 => ?_))))))); rotate_left
  · rw [decide_eq_false g3, Bool.false_and] at e; refine Qy J J J (Qy J J J (Qy J J J (Qy J J J (Qy J J J (Qy J J J (Qy J J J (Qy J J J (QK J J J J (Qq J J J (Qy J J J (Qy J J J (Qy J J J (Qy J J J (Qy J J J (Qy J J J (Qy J J J (Qy J J J (QK J J J J (Qv J J J (Qj (hK _ _ (Qz (Q0 ?_))))))))))))))))))))))); clear hK K; refine QU [_] rfl (Qu J QQ) (by rw [e]; rfl) J
  rw [decide_eq_true g3, Bool.true_and] at e; refine QV J J J fCn1 J (QY J J J J J lInt J (Qq J J J (Qb J J sIks.und (List.length_map ..) J (Qq J J J (Qb J J sIks.und (List.length_map ..) J (Qk (iadd (by omega) (by omega)) J J J J ?_)))))); refine Qk ieql J J J J (QJ J J J J (Qq J J J (Q7 50 J (fun g4 => ?_) (fun g4 => ?_)))); rotate_left
  · rw [decide_eq_false g4, Bool.false_and] at e; refine Qy J J J (Qy J J J (Qy J J J (Qy J J J (Qy J J J (Qy J J J (Qy J J J (Qy J J J (QK J J J J (Qv J J J (Qj (hK _ _ (Qz (Q0 ?_))))))))))))); clear hK K; refine QU [_] rfl (Qu J QQ) (by rw [e]; rfl) J
  rw [decide_eq_true g4, Bool.true_and] at e; refine QV J J J fCn2 J (QY J J J J J lInt J (Qq J J J (Qb J J sIks.und (List.length_map ..) J (Qq J J J (Qk (isub (by omega) (by omega)) J J J J ?_))))); refine Ops.max2 J J J J (Qk ileq J J J J (QJ J J J J (Qv J J J (Qj (hK _ _ (Qz (Q0 ?_))))))); clear hK K; refine QU [_] rfl (Qu J QQ) (by rw [e]; rfl) J
end Go.Proofs.YtlkdkbdgnjcopaaGreat
namespace Go.Proofs.YtlkdkbdgnjcopaaGreat
open Go.Own Go.Limbs
theorem pw_iff {l : List Rs} (h : ∀ r ∈ l, okR r = true) : pwB l = consB l := by
  rw [Bool.eq_iff_iff]; constructor
  · exact fun h2 => cons_all (pw_all h2)
  · intro h2
    refine decide_eq_true fun k hk j hj => ?_
    have hm : ∀ i, i < l.length → l.getD i rs0 ∈ sd cmpR (l.filter okR) := fun i hi => ((Zt ordR (l.filter okR)).2 _).2 (List.mem_filter.2 ⟨getD_mem hi, h _ (getD_mem hi)⟩)
    have hp := (consB_iff l).1 h2; have h3 := hm k hk; have h4 := hm j (by omega); generalize l.getD k rs0 = a at h3; generalize l.getD j rs0 = b at h4; generalize sd cmpR (l.filter okR) = o at hp h3 h4; obtain ⟨x, hx, rfl⟩ := List.getElem_of_mem h3; obtain ⟨y, hy, rfl⟩ := List.getElem_of_mem h4; rcases Nat.lt_trichotomy x y with q | q | q
    · rw [conB_symm]; exact List.pairwise_iff_getElem.1 hp x y hx hy q
    · subst q; exact conB_self _
    · exact List.pairwise_iff_getElem.1 hp y x hy hx q
theorem chk_eq (l : List Rs) : chkR l = chkF l := by
  unfold chkR chkF; by_cases h : ∃ r ∈ l, okR r = false
  · rw [if_pos h, if_pos (by obtain ⟨r, h1, h2⟩ := h; exact List.any_eq_true.2 ⟨r, h1, by rw [h2]; rfl⟩)]
  · have hn : ¬ (l.any fun r => !okR r) = true := fun h2 => by
      obtain ⟨r, h1, h3⟩ := List.any_eq_true.1 h2; exact h ⟨r, h1, by cases hk : okR r with | false => rfl | true => rw [hk] at h3; cases h3⟩
    rw [if_neg h, if_neg hn]; rw [pw_iff (fun r hr => by cases hk : okR r with | true => rfl | false => exact absurd ⟨r, hr, hk⟩ h)]
theorem mem_wiresG (w : Wr) : ∀ (l : List Ad) (p : Ad) (b : Bool), w ∈ wiresG p l b ↔
    w.2 ≠ 0 ∧ ((0 < l.length ∧ l.getD 0 0 = w.2 ∧ p = w.1 ∧ (b = true ∨ p ≠ 0)) ∨ (w.1 ≠ 0 ∧ ∃ i, i < l.length ∧ 1 ≤ i ∧ l.getD (i - 1) 0 = w.1 ∧ l.getD i 0 = w.2))
  | [], p, b => by
    constructor
    · intro h; cases h
    · rintro ⟨_, ⟨h, _⟩ | ⟨_, i, h, _⟩⟩
      · cases h
      · cases h
  | a :: l, p, b => by
    have ih := mem_wiresG w l a false
    show w ∈ (if a ≠ 0 ∧ (b = true ∨ p ≠ 0) then [(p, a)] else []) ++ wiresG a l false ↔ _
    rw [List.mem_append, ih]
    constructor
    · rintro (h | ⟨h0, ⟨h1, h2, h3, h4⟩ | ⟨h1, i, h2, h3, h4, h5⟩⟩)
      · split at h
        · rename_i hc
          rw [List.mem_singleton] at h
          subst h
          exact ⟨hc.1, .inl ⟨Nat.succ_pos _, rfl, rfl, hc.2⟩⟩
        · cases h
      · have h4 : a ≠ 0 := h4.elim (fun h => by cases h) id
        exact ⟨h0, .inr ⟨by rw [← h3]; exact h4, 1, by simp only [List.length_cons]; omega, Nat.le_refl _, h3, h2⟩⟩
      · refine ⟨h0, .inr ⟨h1, i + 1, by simp only [List.length_cons]; omega, by omega, ?_, h5⟩⟩
        obtain ⟨k, rfl⟩ : ∃ k, i = k + 1 := ⟨i - 1, by omega⟩
        exact h4
    · rintro ⟨h0, ⟨_, h2, h3, h4⟩ | ⟨h1, i, h2, h3, h4, h5⟩⟩
      · have h2 : a = w.2 := h2
        refine .inl ?_
        rw [if_pos ⟨by rw [h2]; exact h0, h4⟩, List.mem_singleton, h2, h3]
      · obtain ⟨k, rfl⟩ : ∃ k, i = k + 1 := ⟨i - 1, by omega⟩
        rcases Nat.eq_zero_or_pos k with hk | hk
        · subst hk
          have h4 : a = w.1 := h4
          exact .inr ⟨h0, .inl ⟨by simp only [List.length_cons] at h2; omega, h5, h4, .inr (by rw [h4]; exact h1)⟩⟩
        · obtain ⟨j, rfl⟩ : ∃ j, k = j + 1 := ⟨k - 1, by omega⟩
          exact .inr ⟨h0, .inr ⟨h1, j + 1, by simp only [List.length_cons] at h2; omega, by omega, h4, h5⟩⟩
theorem wiresG_zero : ∀ (l : List Ad) (p : Ad) (b : Bool), wiresG p (l ++ [0]) b = wiresG p l b
  | [], p, b => by
    show (if (0 : Ad) ≠ 0 ∧ (b = true ∨ p ≠ 0) then [(p, (0 : Ad))] else []) ++ wiresG 0 [] false = []
    rw [if_neg (fun h => h.1 rfl)]; rfl
  | a :: l, p, b => by
    show (if a ≠ 0 ∧ (b = true ∨ p ≠ 0) then [(p, a)] else []) ++ wiresG a (l ++ [0]) false = (if a ≠ 0 ∧ (b = true ∨ p ≠ 0) then [(p, a)] else []) ++ wiresG a l false
    rw [wiresG_zero l a false]
theorem cr_list (p : List Ad) (w : Wr) : (decide (w.2 ≠ 0) && (if w.1 = 0 then decide (0 < p.length ∧ p.getD 0 0 = w.2)
    else decide (∃ i, i < p.length ∧ 1 ≤ i ∧ p.getD (i - 1) 0 = w.1 ∧ p.getD i 0 = w.2))) = decide (w ∈ wiresG 0 p true) := by
  rw [Bool.eq_iff_iff, Bool.and_eq_true, decide_eq_true_eq, decide_eq_true_eq, mem_wiresG]
  refine and_congr_right fun _ => ?_
  split
  · rename_i h
    rw [decide_eq_true_eq]; exact ⟨fun h2 => .inl ⟨h2.1, h2.2, h.symm, .inl J⟩, fun h2 => h2.elim (fun h3 => ⟨h3.1, h3.2.1⟩) (fun h3 => absurd h h3.1)⟩
  · rename_i h
    rw [decide_eq_true_eq]; exact ⟨fun h2 => .inr ⟨h, h2⟩, fun h2 => h2.elim (fun h3 => absurd h3.2.2.1.symm h) (fun h3 => h3.2)⟩
theorem cr_eq (l : List Rs) (r : Rs) (w : Wr) : crR l r w = decide (w ∈ wayF l r) := by
  have e : wayF l r = if usR r = false then [] else if r.tt ≤ (pathF (ofF l (trOf r)) r.fl).length then wiresG 0 ((pathF (ofF l (trOf r)) r.fl).take r.tt.toNat) true
    else if ((pathF (ofF l (trOf r)) r.fl).length : Int) < r.tt - 1 ∨ r.an = true then [] else wiresG 0 (pathF (ofF l (trOf r)) r.fl) true := rfl
  unfold crR; rw [e, cr_list]; unfold wyR; generalize pathF (ofF l (trOf r)) r.fl = p; have hnil : decide (w ∈ ([] : List Wr)) = false := decide_eq_false (fun h => by cases h); by_cases h1 : usR r = false
  · rw [if_pos h1, if_pos h1, hnil]; rfl
  rw [if_neg h1, if_neg h1]; by_cases h2 : r.tt ≤ (p.length : Int)
  · rw [if_pos h2, if_pos h2]; rfl
  rw [if_neg h2, if_neg h2]; by_cases h3 : (p.length : Int) = r.tt - 1 ∧ r.an = false
  · rw [if_pos h3, if_neg (fun h => h.elim (fun h => by omega) (fun h => by rw [h3.2] at h; cases h))]; show (true && decide (w ∈ wiresG 0 (p ++ [0]) true)) = _; rw [wiresG_zero, Bool.true_and]
  · rw [if_neg h3, if_pos (by
      by_cases h4 : r.an = true
      · exact .inr h4
      · refine .inl ?_
        have : ¬ (p.length : Int) = r.tt - 1 := fun h5 => h3 ⟨h5, by cases h : r.an with | true => exact absurd h h4 | false => rfl⟩
        omega), hnil]; rfl
theorem cs_eq (l : List Rs) (w : Wr) (b : Bool) : csR l w b = crsF l w b := by
  unfold csR crsF; simp only [cr_eq]
theorem crO_eq (l : List Rs) (w : Wr) : crRO l w = crO l w := by
  unfold crRO crO; simp only [cs_eq, chk_eq]
theorem bd_iff (n : Int) : (bdB n = false) ↔ (n < 0 ∨ 1048576 < n) := by
  unfold bdB; rw [Bool.and_eq_false_iff, decide_eq_false_iff_not, decide_eq_false_iff_not]; omega
theorem cnt_eq (l : List Rs) (w : Wr) (n : Int) : cntR l w n = cntF l w n := by
  unfold cntR cntF; by_cases h0 : n < 0 ∨ 1048576 < n
  · rw [if_pos ((bd_iff n).2 h0), if_pos h0]
  rw [if_neg (fun h => h0 ((bd_iff n).1 h)), if_neg h0, crO_eq]; unfold crO; by_cases h1 : chkF l = 0
  · by_cases h2 : (crsF l w true).length + (crsF l w false).length = 0
    · simp only [ne_eq, h1, h2, not_true_eq_false, if_false, if_true, reduceIte]; rfl
    · simp only [ne_eq, h1, h2, not_true_eq_false, if_false, if_true, reduceIte, List.length_map]
  · simp only [ne_eq, h1, not_false_eq_true, if_true, reduceIte]
end Go.Proofs.YtlkdkbdgnjcopaaGreat
namespace Go.Own
open Go.RowKit
open Go.ChangeMaps (setBlock)
section
variable {F : Fence} {n : Nat} {P : Program} (w : World) {ops : Array Oper} {rest : List Oper} {o : Oper} {a : Act} {Q : Exit → Act → World → Prop}
theorem rangeIn (hg : o.guard = none) (m : Operand) (t : TypeId) (hop : o.op = Op.range t m) (k e : TypeId) (ht : P.underlying t = some (.map k e)) (b : Nat) (es : Array MapEntry) (clock : Nat) (hm : a.eval m = .map (some b)) (hb : w.heap[b]? = some (.map es clock))
    (hK : ∀ w', w'.heap[w.heap.size]? = some (.mapIter (some b) clock #[] clock) → w.grownBy w' none → w.drawn ≤ w'.drawn → wpListIn F n P ops Q rest (a.put o.dst (.pointer (some ⟨w.heap.size, 0, none⟩))) w') :
    wpListIn F n P ops Q (o :: rest) a w := by
  refine wpListIn_plain hg fun K' hK' => ?_
  have hrun := run_range_map (P := P) w t k e b es clock ht hb; unfold Oper.wpIn; refine ⟨by simp [Oper.about, hop], ?_⟩; rw [Oper.semAt_plain F _ _ (by rw [hop]; intro c hc'; cases hc')]; simp [execOp, hop, hm, hrun, Result.andThen]; exact hK' _ _ (hK _ (_root_.Go.heap_alloc_new w _) ⟨rfl, rfl, rfl, by simp, fun i hi _ => _root_.Go.RowKit.Below.heap_alloc w _ i hi⟩ (Nat.le_refl _))
theorem nextIn (hg : o.guard = none) (it : Operand) (hop : o.op = Op.next it false) (b r since c0 : Nat) (seen : Array Nat) (es : Array MapEntry) (clock : Nat) (hit : a.eval it = .pointer (some ⟨r, 0, none⟩))
    (hr : w.heap[r]? = some (.mapIter (some b) since seen c0)) (hb : w.heap[b]? = some (.map es clock)) (hold : ∀ x ∈ es.toList, x.born < since) (hsc : since ≤ c0) (hn : (es.toList.map (·.born)).Nodup)
    (hDone : (leftOf es seen).size = 0 → wpListIn F n P ops Q rest (a.put o.dst (.tuple #[.bool false])) w)
    (hMore : ∀ e ∈ (leftOf es seen).toList, ∀ w' : World, w'.heap[r]? = some (.mapIter (some b) since (seen.push e.born) clock) → w'.heap[b]? = some (.map es clock) → w.grownBy w' (some r) → w.drawn ≤ w'.drawn →
      (Instr.entry (.pointer (some ⟨r, 0, none⟩))).run P w' = .ok (.tuple #[e.key, e.val]) w' → wpListIn F n P ops Q rest (a.put o.dst (.tuple #[.bool true, e.key, e.val])) w') :
    wpListIn F n P ops Q (o :: rest) a w := by
  have hrb : r ≠ b := fun e => by rw [e, hb] at hr; cases hr
  refine wpListIn_plain hg fun K' hK' => ?_
  unfold Oper.wpIn; refine ⟨by simp [Oper.about, hop], ?_⟩; rw [Oper.semAt_plain F _ _ (by rw [hop]; intro c hc'; cases hc')]; rcases run_next_at (P := P) w o.type r b since c0 seen es clock hr hb hold hsc with ⟨h0, hrun⟩ | ⟨e, he, w1, hw1, hrun⟩
  · simp [execOp, hop, hit, hrun, Result.andThen]; exact hK' _ _ (hDone h0)
  · simp [execOp, hop, hit, hrun, Result.andThen]
    have e1 : w1.heap = w.heap := by rcases hw1 with rfl | rfl <;> rfl
    have hlt : r < w1.heap.size := by rw [e1]; exact (Array.getElem?_eq_some_iff.1 hr).1
    have hem : e ∈ es.toList := by
      unfold leftOf at he; simp at he ⊢; exact he.1
    have hr' : (setBlock w1 r (.mapIter (some b) since (seen.push e.born) clock)).heap[r]? = some (.mapIter (some b) since (seen.push e.born) clock) := by
      simp [setBlock, Array.getElem?_setIfInBounds, hlt]
    have hb' : (setBlock w1 r (.mapIter (some b) since (seen.push e.born) clock)).heap[b]? = some (.map es clock) := by
      simp [setBlock, Array.getElem?_setIfInBounds, hrb, e1, hb]
    refine hK' _ _ (hMore e he _ hr' hb' ⟨?_, ?_, ?_, ?_, ?_⟩ ?_ ?_)
    · rcases hw1 with rfl | rfl <;> rfl
    · rcases hw1 with rfl | rfl <;> rfl
    · rcases hw1 with rfl | rfl <;> rfl
    · simp [setBlock, e1]
    · intro i hi hne
      have : r ≠ i := fun e => hne (by rw [e])
      simp [setBlock, Array.getElem?_setIfInBounds, this, e1]
    · rcases hw1 with rfl | rfl
      · exact Nat.le_refl _
      · exact Nat.le_succ _
    · exact run_entry_at _ r b since seen es clock e hr' hb' hem hn
theorem appendIn (hg : o.guard = none) (s x : Operand) (t : TypeId) (hop : o.op = Op.call { callee := Callee.builtin Builtin.append, args := #[s, x], argTypes := #[t, t] })
    (base : Nat) (e : TypeId) (i : TypeInfo) (z : Value) (size bytes : Nat) (h1 : P.underlying t = some (.slice e)) (h2 : P.info? e = some i) (h3 : i.zero = some z) (h4 : i.size = size) (h5 : i.bytes = bytes) (h6 : z.cells.size = size) (h7 : 0 < size)
    (v : Value) (k : Nat) (xs : List Value) (hs : a.eval s = v) (hown : w.ownsRow base e size v k xs) (ad : Addr) (m c : Nat) (news : List Value) (hx : a.eval x = .slice (some ad) m c) (hn : news.length = m * size)
    (hc : ∀ j u, news[j]? = some u → w.cell? (ad.add j) = some u) (h1c : ∀ u ∈ news, u.oneCell' = true) (b1 : k + m ≤ maxLen) (b2 : (k + m) * bytes ≤ 140737488355328) (b3 : base ≤ w.heap.size)
    (hK : ∀ v' w', w'.ownsRow base e size v' (k + m) (xs ++ news) → w.grownBy w' v.ownBlock → w.drawn ≤ w'.drawn → wpListIn F n P ops Q rest (a.put o.dst v') w') :
    wpListIn F n P ops Q (o :: rest) a w := by
  refine wpListIn_plain hg fun K hK' => ?_
  obtain ⟨v', w', hrun, r1, r2, r3⟩ := run_append_own (P := P) w base t o.type e i z size bytes h1 h2 h3 h4 h5 h6 h7 v k xs hown ad m c news hn hc h1c b1 b2 b3; unfold Oper.wpIn; refine ⟨?_, ?_⟩
  · simp [Oper.about, hop, resolve, Target.leads, Sem.run_pure]
  · rw [Oper.semAt_plain F _ _ (by rw [hop]; intro c hc'; cases hc')]; simp [execOp, hop, resolve, invoke, builtin, hs, hx, hrun, Result.andThen]; exact hK' _ _ (hK v' w' r1 r2 (run_drawn _ _ hrun))
end
def AbidesD {β : Type} (B : Nat) (J : β → World → Prop) : Prop :=
  ∀ s W W' row, J s W → W.grownBy W' row → W.drawn ≤ W'.drawn → (∀ r, row = some r → B ≤ r ∧ ∃ o : Obj, W.heap[r]? = some o ∧ o.isWalk = true) → J s W'
def GivesD {α : Type} (F : Fence) (n : Nat) (P : Program) (g : Nat) (lb : Array Value) (enc : α → Value) (S : List α → Prop) (N : Nat) (w : World) : Prop :=
  ∀ (l : Nat) (J : List α → World → Prop) (W : World), Go.RowKit.Below w.heap.size w W → AbidesD W.heap.size J →
    (∀ pre x W1, J pre W1 → pre.length < N → YieldAt F (n - 1) P l #[enc x] W1 fun e W' => e = .returned (.bool true) ∧ J (pre ++ [x]) W' ∧ KeepsWalks W1 W') →
    J [] W →
    CallsIn F n P g (#[.func (.yield l) #[] #[]] ++ lb) W fun e W' => (∃ v, e = .returned v) ∧ ∃ xs, S xs ∧ J xs W'
def itLeft (es : Array MapEntry) (r : Nat) (w : World) : Nat :=
  match w.heap[r]? with
  | some (.mapIter _ _ seen _) => (leftOf es seen).size
  | _ => 0
theorem itLeft_eq {es : Array MapEntry} {r : Nat} {w : World} {m : Option Nat} {s c : Nat} {seen : Array Nat} (h : w.heap[r]? = some (.mapIter m s seen c)) : itLeft es r w = (leftOf es seen).size := by
  unfold itLeft; rw [h]
theorem perm_strike (b : Nat) : ∀ (l : List MapEntry) (e : MapEntry), e ∈ l → e.born = b → (l.map (·.born)).Nodup → l.Perm (e :: l.filter fun x => !(x.born == b))
  | [], _, h, _, _ => by cases h
  | x :: l, e, h, hb, hn => by
    rw [List.map_cons, List.nodup_cons] at hn
    rcases List.mem_cons.1 h with rfl | h
    · have : (e :: l).filter (fun x => !(x.born == b)) = l := by
        rw [List.filter_cons_of_neg (by simp [hb])]
        refine List.filter_eq_self.2 fun y hy => ?_
        have : y.born ≠ b := fun hc => hn.1 (by rw [hb, ← hc]; exact List.mem_map_of_mem hy)
        simpa using this
      rw [this]
    · have hx : x.born ≠ b := fun hc => hn.1 (by rw [hc, ← hb]; exact List.mem_map_of_mem h)
      rw [List.filter_cons_of_pos (by simpa using hx)]; exact ((perm_strike b l e h hb hn.2).cons x).trans (List.Perm.swap ..)
theorem left_step {es : Array MapEntry} {seen : Array Nat} {e : MapEntry} (he : e ∈ (leftOf es seen).toList) (hn : (es.toList.map (·.born)).Nodup) : (leftOf es seen).toList.Perm (e :: (leftOf es (seen.push e.born)).toList) := by
  have h1 : (leftOf es (seen.push e.born)).toList = (leftOf es seen).toList.filter fun x => !(x.born == e.born) := by
    unfold leftOf; simp only [Array.toList_filter, List.filter_filter]
    refine List.filter_congr fun x _ => ?_
    rw [Array.contains_push, Bool.not_or, Bool.and_comm]
  rw [h1]
  refine perm_strike _ _ e he J ?_
  unfold leftOf; rw [Array.toList_filter]; exact List.Nodup.sublist (List.Sublist.map _ List.filter_sublist) hn
theorem left_start (es : Array MapEntry) : (leftOf es #[]).toList = es.toList := by
  unfold leftOf; simp
end Go.Own
namespace Go.Proofs.YtlkdkbdgnjcopaaGreat
open Go.RowKit Go.Maps Go.Shelf
open Go.Own (rangeIn nextIn appendIn itLeft itLeft_eq left_step left_start Stamps AbidesD GivesD)
abbrev wrV (x : Wr) : Value := .agg #[.int .u32 x.1.val, .int .u32 x.2.val]
def wrD : Value → Wr
  | .agg l => match l.toList with
    | [Value.int _ a, Value.int _ b] => (_root_.Fin.ofNat 4294967296 a.toNat, _root_.Fin.ofNat 4294967296 b.toNat)
    | _ => wr0
  | _ => wr0
theorem wrD_V (x : Wr) : wrD (wrV x) = x := by
  obtain ⟨a, b⟩ := x
  have h : ∀ a : _root_.Fin 4294967296, _root_.Fin.ofNat 4294967296 ((a.val : Int).toNat) = a := fun a => _root_.Fin.ext (by simp [_root_.Fin.ofNat])
  show ((_, _) : Wr) = _; rw [h, h]
set_option maxRecDepth 100000 in
set_option maxHeartbeats 1000000 in
theorem keysIt (F : Fence) (n : Nat) (hf : F.fn 95) (hro : F.round = none) (hn : 1 ≤ n) (w : World) (Bm o b : Nat) (es : Array MapEntry) (clock : Nat) (ks : List Wr) (hBm : Bm < w.heap.size)
    (hm : w.cell? ⟨Bm, o, none⟩ = some (.map (some b))) (hb : w.heap[b]? = some (.map es clock)) (hS : Stamps es clock) (hk : es.toList.map (·.key) = ks.map wrV) :
    GivesD F n Tryz.prog 95 #[.pointer (some ⟨Bm, o, none⟩)] wrV (fun ss => ss.Perm ks) ks.length w := by
  intro l J W hW hJ hY h0; have hbl : b < w.heap.size := (Array.getElem?_eq_some_iff.1 hb).1; have hm : W.cell? ⟨Bm, o, none⟩ = some (.map (some b)) := (hW.cell (p := ⟨Bm, o, none⟩) hBm).trans hm; have hb : W.heap[b]? = some (.map es clock) := (hW.block b hbl).trans hb
  have hks : ks = es.toList.map fun e => wrD e.key := by
    have : (es.toList.map (·.key)).map wrD = (ks.map wrV).map wrD := by rw [hk]
    rw [List.map_map, List.map_map] at this
    have e : ks.map (wrD ∘ wrV) = ks := by
      conv => rhs; rw [← List.map_id ks]
      exact List.map_congr_left fun x _ => wrD_V x
    rw [e] at this; exact this.symm
  have hkv : ∀ e ∈ es.toList, e.key = wrV (wrD e.key) := fun e he => by
    have : e.key ∈ ks.map wrV := by rw [← hk]; exact List.mem_map_of_mem he
    obtain ⟨x, _, hx⟩ := List.mem_map.1 this; rw [← hx, wrD_V]
  refine callsIn_of_wp Tryz.func95 Y hf ?_ hro
  simp only [Tryz.ntmps95, List.size_toArray, List.length_cons, List.length_nil, Nat.reduceAdd, Nat.reduceSub, Array.replicate_succ, Array.replicate_zero, List.push_toArray, List.append_toArray, List.nil_append, List.cons_append]
  gi_wp2_with (first
    | (gi_at_range; refine rangeIn _ Y _ _ Y _ _ Tryz.underlying96 b es clock Y hb ?_; intro w0 hr0 hg0 hd0)
    | gi_in)
  go_frame
  gi_loopw [3] (fun _ wr => ∃ (seen : Array Nat) (c0 : Nat) (ss : List Wr), wr.heap[W.heap.size]? = some (.mapIter (some b) clock seen c0) ∧ wr.heap[b]? = some (.map es clock) ∧ clock ≤ c0 ∧ (ss ++ (leftOf es seen).toList.map fun e => wrD e.key).Perm ks ∧ J ss wr)
    (fun _ wr => itLeft es W.heap.size wr)
  case atStart =>
    refine ⟨#[], clock, [], hr0, (hg0.block b (by have := hW.size; omega) (by simp)).trans hb, Nat.le_refl _, ?_, hJ [] W w0 none h0 hg0 hd0 (fun r e => by cases e)⟩; rw [left_start, List.nil_append, ← hks]
  case round =>
    obtain ⟨seen, c0, ss, hr, hb2, hc, hp, hJs⟩ := hrel
    gi_wp2_with (first
      | (gi_at_next; refine nextIn _ Y _ Y b W.heap.size clock c0 seen es clock Y hr hb2 hS.1 hc hS.2 ?_ ?_)
      | gi_in)
    · intro hz
      gi_wp2
      go_end0
      refine ⟨⟨_, rfl⟩, ss, ?_, hJs⟩
      have : (leftOf es seen).toList = [] := by rw [hz]
      rw [this, List.map_nil, List.append_nil] at hp; exact hp
    · intro e he w2 hr2 hb3 hg2 hd2 hen; have he' : e ∈ (leftOf es seen).toList := Array.mem_def.1 he
      have hem : e ∈ es.toList := by
        unfold leftOf at he'; rw [Array.toList_filter] at he'; exact (List.mem_filter.1 he').1
      have hst := (left_step he' hS.2).map fun e => wrD e.key
      have hkx := hkv e hem; rw [List.map_cons] at hst; generalize wrD e.key = x at hkx hst; rw [hkx] at hen ⊢
      have hwalk : ∀ r', some W.heap.size = some r' → W.heap.size ≤ r' ∧ ∃ ob : Obj, wr.heap[r']? = some ob ∧ ob.isWalk = true := fun r' e => by
        cases e; exact ⟨Nat.le_refl _, _, hr, rfl⟩
      have hJ2 : J ss w2 := hJ ss wr w2 (some W.heap.size) hJs hg2 hd2 hwalk; obtain ⟨w3, hw3⟩ : ∃ w3, w2.alloc (.cells #[.int .u32 x.1.val, .int .u32 x.2.val] 37) = w3 := ⟨_, rfl⟩
      have hg3 : w2.grownBy w3 none := by rw [← hw3]; exact ⟨rfl, rfl, rfl, by simp, fun i hi _ => Below.heap_alloc w2 _ i hi⟩
      have hJ3 : J ss w3 := hJ ss w2 w3 none hJ2 hg3 (by rw [← hw3]; exact Nat.le_refl _) (fun r e => by cases e)
      have hlen : ss.length < ks.length := by
        have h1 := hp.length_eq; have h2 := hst.length_eq; rw [List.length_append] at h1; rw [List.length_cons] at h2; omega
      obtain ⟨fn, tmps, assign, body, hy, hR⟩ := hY ss x w3 hJ3 hlen; have hr3 : w3.heap[W.heap.size]? = some (.mapIter (some b) clock (seen.push e.born) clock) := (hg3.block _ (Array.getElem?_eq_some_iff.1 hr2).1 (by simp)).trans hr2; have hb4 : w3.heap[b]? = some (.map es clock) := (hg3.block _ (Array.getElem?_eq_some_iff.1 hb3).1 (by simp)).trans hb3; subst hw3; clear hg3
      gi_wp2
      refine hR.mono ?_
      rintro e' W3 ⟨rfl, hJ4, hk4⟩
      gi_wp2
      have hr5 := hk4.same _ _ hr3 Y; have hb5 := hk4.same _ _ hb4 Y
      go_roundw
      case rel => exact ⟨_, _, ss ++ [x], hr5, hb5, Nat.le_refl _, by rw [List.append_assoc]; exact (hst.symm.append_left ss).trans hp, hJ4⟩
      case measure =>
        rw [itLeft_eq hr5, itLeft_eq hr]; have := hst.length_eq; rw [List.length_cons, List.length_map, List.length_map, Array.length_toList, Array.length_toList] at this; omega
end Go.Proofs.YtlkdkbdgnjcopaaGreat
namespace Go.Proofs.YtlkdkbdgnjcopaaGreat
open Go.RowKit Go.Maps Go.Shelf
open Go.Own (rangeIn nextIn appendIn AbidesD GivesD)
abbrev wr2 (x : Wr) : List Value := [.int .u32 x.1.val, .int .u32 x.2.val]
def wrV2 (l : List Wr) : List Value := (l.map wr2).flatten
theorem wrV2_snoc (l : List Wr) (x : Wr) : wrV2 (l ++ [x]) = wrV2 l ++ wr2 x := by simp [wrV2]
theorem iWire : (Tryz.prog.info? 37).map (fun i => (i.zero, i.size, i.bytes)) = some (some (.agg #[.int .u32 0, .int .u32 0]), 2, 8) := by kernel_rfl
def apAssign : Code := (Code.region 2 #[{ dst := some 5, op := Op.alloc 37, type := 0, pos := "iter.go:51", after := #[], guard := none },
  { dst := none, op := Op.store 37 (Operand.tmp 5) (Operand.tmp 7), type := 0, pos := "iter.go:51", after := #[{ on := 0, ground := Ground.data }, { on := 0, ground := Ground.phase }], guard := none }] false)
def apBody : Code := (Code.block 1 (Code.region 3 #[{ dst := some 8, op := Op.load 64 (Operand.tmp 2), type := 64, pos := "iter.go:52", after := #[], guard := none },
  { dst := some 9, op := Op.load 37 (Operand.tmp 5), type := 37, pos := "iter.go:52", after := #[], guard := none },
  { dst := some 10, op := Op.buildSlice 64 1 #[(0, Operand.tmp 9)], type := 64, pos := "iter.go:52", after := #[{ on := 1, ground := Ground.data }], guard := none },
  { dst := some 11, op := Op.call { callee := Callee.builtin Builtin.append, args := #[Operand.tmp 8, Operand.tmp 10], argTypes := #[64, 64] }, type := 64, pos := "iter.go:52", after := #[{ on := 0, ground := Ground.data }, { on := 2, ground := Ground.data }], guard := none },
  { dst := none, op := Op.store 64 (Operand.tmp 2) (Operand.tmp 11), type := 0, pos := "iter.go:52", after := #[{ on := 3, ground := Ground.data }, { on := 3, ground := Ground.chain }, { on := 0, ground := Ground.phase }, { on := 1, ground := Ground.phase }, { on := 2, ground := Ground.phase }, { on := 3, ground := Ground.phase }], guard := none }] false))
def apRec (fn : FuncId) (sv : Value) (Bs D : Nat) (st : LoopState) (pend : Option Code) : Loop :=
  { state := st, pending := pend, fn, tmps := #[.slice none 0 0, sv, .pointer (some ⟨Bs, 0, none⟩), undef, .slice none 0 0, undef, sv, undef, undef, undef, undef, undef, undef], params := #[7], assign := apAssign, body := apBody, defers := D }
structure ApAt (w0 : World) (fn : FuncId) (sv : Value) (Bs l D : Nat) (ss : List Wr) (W : World) : Prop where
  box : ∃ v, W.heap[Bs]? = some (.cells #[v] 64 (0, 0)) ∧ W.ownsRow w0.heap.size 37 2 v ss.length (wrV2 ss)
  L : W.heap[l]? = some (.loop (apRec fn sv Bs D .ready none))
  K : W.heap[D]? = some (.deferred (some []))
  below : Below w0.heap.size w0 W
  drawn : w0.drawn ≤ W.drawn
theorem ownsRow_abides {W W' : World} {row : Option Nat} {base : Nat} {e : TypeId} {size : Nat} {v : Value} {k : Nat} {xs : List Value} (h : W.ownsRow base e size v k xs) (hg : W.grownBy W' row)
    (hrow : ∀ r, row = some r → ∃ o : Obj, W.heap[r]? = some o ∧ o.isWalk = true) : W'.ownsRow base e size v k xs := by
  refine h.kept hg ?_
  rcases h.2 with ⟨rfl, _⟩ | ⟨g, cap, cur, rfl, _, hgb, _⟩
  · exact .inl J
  · refine .inr fun e' => ?_
    obtain ⟨o, ho, hw⟩ := hrow g (by simpa [Value.ownBlock] using e'.symm); rw [hgb] at ho; cases ho; cases hw
theorem ap_abides (w0 : World) (fn : FuncId) (sv : Value) (Bs l D B : Nat) (hB : w0.heap.size ≤ B) : AbidesD B (ApAt w0 fn sv Bs l D) := fun s W W' row h hg hdr hrow => by
  have hrow' : ∀ r, row = some r → ∃ o : Obj, W.heap[r]? = some o ∧ o.isWalk = true := fun r e => (hrow r e).2
  obtain ⟨v, hv, hr⟩ := h.box
  exact ⟨⟨v, (grownBy_keeps hg hrow' hv rfl).trans hv, ownsRow_abides hr hg hrow'⟩, (grownBy_keeps hg hrow' h.L rfl).trans h.L, (grownBy_keeps hg hrow' h.K rfl).trans h.K,
    h.below.grown hg h.below.size (fun k e => Nat.le_trans hB (hrow k e).1), Nat.le_trans h.drawn hdr⟩
theorem Y0 (W : World) (l : Nat) (o : Obj) : W.grownBy (W.putObj l o) (some l) :=
  ⟨rfl, rfl, rfl, by simp, fun k _ hk => World.putObj_heap_other (fun e => hk (by rw [e]))⟩
theorem grownBy_set0 (W : World) (b : Nat) (v : Value) : W.grownBy (W.setCell ⟨b, 0, none⟩ v) (some b) :=
  ⟨rfl, rfl, rfl, (KeepsWalks.setCell W _ v).size, fun k _ hk => Below.heap_setCell _ _ _ k (fun e => hk (by rw [e]))⟩
theorem ownsRow_other {W : World} {base : Nat} {e : TypeId} {size : Nat} {v : Value} {k : Nat} {xs : List Value} (h : W.ownsRow base e size v k xs) {j : Nat} {o : Obj} (hj : W.heap[j]? = some o) (hno : ∀ cur, o ≠ .cells cur e (0, 0)) :
    v.ownBlock = none ∨ v.ownBlock ≠ some j := by
  rcases h.2 with ⟨rfl, _⟩ | ⟨g, cap, cur, rfl, _, hgb, _⟩
  · exact .inl J
  · refine .inr fun e' => ?_
    have : g = j := by simpa [Value.ownBlock] using e'
    subst this; rw [hgb] at hj; cases hj; exact hno cur rfl
theorem cell_of_box {W : World} {B : Nat} {v : Value} {t : TypeId} (h : W.heap[B]? = some (.cells #[v] t (0, 0))) : W.cell? ⟨B, 0, none⟩ = some v ∧ W.frozen? ⟨B, 0, none⟩ = false := by
  constructor <;> simp [World.cell?, World.frozen?, h]
theorem set_box {W : World} {B : Nat} {v : Value} {t : TypeId} (v' : Value) (h : W.heap[B]? = some (.cells #[v] t (0, 0))) : (W.setCell ⟨B, 0, none⟩ v').heap[B]? = some (.cells #[v'] t (0, 0)) := by
  obtain ⟨hlt, hk⟩ := Array.getElem?_eq_some_iff.1 h; show (W.heap.modify B _)[B]? = _; rw [Array.getElem?_eq_getElem (by rw [Array.size_modify]; exact hlt), Array.getElem_modify_self, hk]; rfl
theorem ownsRow_no_walk {W : World} {base : Nat} {e : TypeId} {size : Nat} {v : Value} {k : Nat} {xs : List Value} (h : W.ownsRow base e size v k xs) : ∀ (j : Nat) (o : Obj), v.ownBlock = some j → W.heap[j]? = some o → o.isWalk = false := by
  intro j o hj ho; rcases h.2 with ⟨rfl, _⟩ | ⟨g, cap, cur, rfl, _, hgb, _⟩
  · simp [Value.ownBlock] at hj
  · have : g = j := by simpa [Value.ownBlock] using hj
    subst this; rw [hgb] at ho; cases ho; rfl
theorem cell_two_new (w : World) (x y : Value) (t : TypeId) : ∀ j u, [x, y][j]? = some u → (w.alloc (.cells #[x, y] t)).cell? ((⟨w.heap.size, 0, none⟩ : Addr).add j) = some u := by
  intro j u hj; have h := World.alloc_heap_new w (.cells #[x, y] t)
  have e : ∀ i, (⟨w.heap.size, 0, none⟩ : Addr).add i = ⟨w.heap.size, i, none⟩ := fun i => by
    unfold Addr.add; split
    · rename_i h0; rw [h0]
    · simp
  rw [e]; unfold World.cell?; simp only [if_true, h]
  match j, hj with
  | 0, hj => simpa using hj
  | 1, hj => simpa using hj
  | j + 2, hj => simp at hj
theorem one_two (x : Wr) : ∀ u ∈ wr2 x, u.oneCell' = true := fun u hu => by
  rcases List.mem_cons.1 hu with rfl | hu
  · rfl
  · rcases List.mem_cons.1 hu with rfl | hu
    · rfl
    · cases hu
set_option maxRecDepth 100000 in
set_option maxHeartbeats 2000000 in
theorem apYield (F : Fence) (m : Nat) (w0 : World) (fn : FuncId) (hfn : F.fn fn) (sv : Value) (Bs l D : Nat) (hBl : Bs ≠ l) (hDl : D ≠ l) (hDB : D ≠ Bs) (h0B : w0.heap.size ≤ Bs) (h0l : w0.heap.size ≤ l)
    (N : Nat) (hN : N ≤ maxLen) (hNb : N * 8 ≤ 140737488355328) (ss : List Wr) (x : Wr) (W : World) (h : ApAt w0 fn sv Bs l D ss W) (hlen : ss.length < N) :
    YieldAt F m Tryz.prog l #[wrV x] W fun e W' => e = .returned (.bool true) ∧ ApAt w0 fn sv Bs l D (ss ++ [x]) W' ∧ KeepsWalks W W' := by
  obtain ⟨i0, hi, hz0, hz1, hz2⟩ := info_parts iWire; obtain ⟨v, hv, hrow⟩ := h.box; refine ⟨fn, #[.slice none 0 0, sv, .pointer (some ⟨Bs, 0, none⟩), undef, .slice none 0 0, undef, sv, wrV x, undef, undef, undef, undef, undef], apAssign, apBody, by simpa [apRec] using run_yield (P := Tryz.prog) (args := #[wrV x]) h.L J, roundIn_of_wpIn hfn ?_⟩; have hl : l < W.heap.size := (Array.getElem?_eq_some_iff.1 h.L).1; have hBlt0 : Bs < W.heap.size := (Array.getElem?_eq_some_iff.1 hv).1; have hDlt0 : D < W.heap.size := (Array.getElem?_eq_some_iff.1 h.K).1; obtain ⟨W1, hW1⟩ : ∃ W1, W.alloc (.cells #[.int .u32 x.1.val, .int .u32 x.2.val] 37) = W1 := ⟨_, rfl⟩
  have hg1 : W.grownBy W1 none := by rw [← hW1]; exact ⟨rfl, rfl, rfl, by simp, fun i hi _ => Below.heap_alloc W _ i hi⟩
  have hk1 : KeepsWalks W W1 := by rw [← hW1]; exact KeepsWalks.alloc _ _
  have hs1 : W1.heap.size = W.heap.size + 1 := by rw [← hW1]; simp
  have hc1 : W1.heap[W.heap.size]? = some (.cells #[.int .u32 x.1.val, .int .u32 x.2.val] 37 (0, 0)) := by rw [← hW1]; exact World.alloc_heap_new W _
  have hL1 : W1.heap[l]? = some (.loop (apRec fn sv Bs D .ready none)) := (hg1.block l hl (by simp)).trans h.L; have hbr := run_beginRound (P := Tryz.prog) hL1 J; obtain ⟨W2, hW2⟩ : ∃ W2, W1.putObj l (.loop { apRec fn sv Bs D .ready none with state := .busy }) = W2 := ⟨_, rfl⟩; rw [hW2] at hbr
  have hg2 : W1.grownBy W2 (some l) := by rw [← hW2]; exact Y0 _ _ _
  have hk2 : KeepsWalks W1 W2 := by rw [← hW2]; exact KeepsWalks.putObj _ hL1 J
  unfold apAssign
  gi_wp2_with (rw [Oper.semAt_eq _ _ _ (fun c h => by cases h)]; go_simp; try go_bits)
  clear hbr
  have hl1 : l < W1.heap.size := by omega
  have hv1 : W1.heap[Bs]? = some (.cells #[v] 64 (0, 0)) := (hg1.block Bs hBlt0 (by simp)).trans hv; have hK1 : W1.heap[D]? = some (.deferred (some [])) := (hg1.block D hDlt0 (by simp)).trans h.K
  have hrow1 : W1.ownsRow w0.heap.size 37 2 v ss.length (wrV2 ss) := by rw [← hW1]; exact hrow.alloc _
  have hv2 : W2.heap[Bs]? = some (.cells #[v] 64 (0, 0)) := by rw [← hW2]; exact (World.putObj_heap_other hBl).trans hv1
  have hK2 : W2.heap[D]? = some (.deferred (some [])) := by rw [← hW2]; exact (World.putObj_heap_other hDl).trans hK1
  have hL2 : W2.heap[l]? = some (.loop { apRec fn sv Bs D .ready none with state := .busy }) := by rw [← hW2]; exact World.putObj_heap_same hl1
  have hx2 : W2.heap[W.heap.size]? = some (.cells #[.int .u32 x.1.val, .int .u32 x.2.val] 37 (0, 0)) := by rw [← hW2]; exact (World.putObj_heap_other (by omega)).trans hc1
  have hrow2 : W2.ownsRow w0.heap.size 37 2 v ss.length (wrV2 ss) := hrow1.kept hg2 (ownsRow_other hrow1 hL1 (fun cur e => by cases e)); have hb2 : Below w0.heap.size w0 W2 := (h.below.grown hg1 h.below.size (fun k e => by cases e)).grown hg2 (by have := h.below.size; omega) (fun k e => by cases e; exact h0l)
  have hs2 : W2.heap.size = W1.heap.size := by rw [← hW2]; simp
  obtain ⟨hc2, hf2⟩ := cell_of_box hv2
  have hx20 : W2.cell? ⟨W.heap.size, 0, none⟩ = some (.int .u32 x.1.val) := by simp [World.cell?, hx2]
  have hx21 : W2.cell? ⟨W.heap.size, 1, none⟩ = some (.int .u32 x.2.val) := by simp [World.cell?, hx2]
  have hBlt : Bs < W2.heap.size := (Array.getElem?_eq_some_iff.1 hv2).1; have hl2 : l < W2.heap.size := (Array.getElem?_eq_some_iff.1 hL2).1; have hDlt : D < W2.heap.size := (Array.getElem?_eq_some_iff.1 hK2).1
  have ne_of : ∀ {j : Nat} {o : Obj}, W2.heap[j]? = some o → (∀ cur, o ≠ .cells cur 37 (0, 0)) → some j ≠ v.ownBlock := fun hj hno => by
    rcases ownsRow_other hrow2 hj hno with e | e
    · rw [e]; simp
    · exact fun e' => e e'.symm
  have hs3 : W.heap.size < W2.heap.size := by omega
  have hd2 : W2.drawn = W.drawn := by rw [← hW2, ← hW1]; rfl
  clear hW1 hW2 hc1 hs1 hs2 hv1 hrow1; unfold apBody
  gi_wp2_with (first
    | (gi_at_builtin; refine appendIn _ J _ _ 64 J w0.heap.size 37 i0 (.agg #[.int .u32 0, .int .u32 0]) 2 8 Tryz.underlying64 hi hz0 hz1 hz2 J (by decide) _ _ _ J (hrow2.alloc _) ⟨W2.heap.size, 0, none⟩ 1 1 (wr2 x) J J (cell_two_new _ _ _ _) (one_two x) (by omega) (by omega) (by have := hb2.size; simp; omega) ?_; intro v' w3 hown' hg3 hd3
       have hv3 : w3.heap[Bs]? = some (.cells #[v] 64 (0, 0)) := (hg3.block Bs (by simp; omega) (ne_of hv2 (fun cur e => by cases e))).trans ((Below.heap_alloc _ _ Bs hBlt).trans hv2); obtain ⟨hc3, hf3⟩ := cell_of_box hv3
       obtain ⟨g', cap', cur', rfl, hbase', hgb', hr1, hr2, hr3, hr4⟩ : ∃ g' cap' cur', v' = .slice (some ⟨g', 0, none⟩) (ss.length + 1) cap' ∧ w0.heap.size ≤ g' ∧ w3.heap[g']? = some (.cells cur' 37 (0, 0)) ∧ ss.length + 1 ≤ cap' ∧ cap' ≤ maxLen ∧ cur'.size = cap' * 2 ∧ cur'.toList.take ((ss.length + 1) * 2) = wrV2 ss ++ wr2 x := by
         rcases hown'.2 with ⟨_, h0⟩ | h'
         · exact absurd h0 (by omega)
         · exact h'
       go_frame)
    | (rw [Oper.semAt_eq _ _ _ (fun c h => by cases h)]; go_simp; try go_bits))
  have hg3' : (W2.alloc (.cells #[.int .u32 x.1.val, .int .u32 x.2.val] 37)).grownBy w3 v.ownBlock := hg3; have hL3 : w3.heap[l]? = some (.loop { apRec fn sv Bs D .ready none with state := .busy }) := (hg3'.block l (by simp; omega) (ne_of hL2 (fun cur e => by cases e))).trans ((Below.heap_alloc _ _ l hl2).trans hL2); have hK3 : w3.heap[D]? = some (.deferred (some [])) := (hg3'.block D (by simp; omega) (ne_of hK2 (fun cur e => by cases e))).trans ((Below.heap_alloc _ _ D hDlt).trans hK2); obtain ⟨w4, hw4⟩ : ∃ w4, w3.setCell ⟨Bs, 0, none⟩ (.slice (some ⟨g', 0, none⟩) (ss.length + 1) cap') = w4 := ⟨_, rfl⟩; rw [hw4]
  have hg4 : w3.grownBy w4 (some Bs) := by rw [← hw4]; exact grownBy_set0 _ _ _
  have hv4 : w4.heap[Bs]? = some (.cells #[.slice (some ⟨g', 0, none⟩) (ss.length + 1) cap'] 64 (0, 0)) := by rw [← hw4]; exact set_box _ hv3
  have hL4 : w4.heap[l]? = some (.loop { apRec fn sv Bs D .ready none with state := .busy }) := (hg4.block l (Array.getElem?_eq_some_iff.1 hL3).1 (fun e => hBl (by cases e; rfl))).trans hL3; have hK4 : w4.heap[D]? = some (.deferred (some [])) := (hg4.block D (Array.getElem?_eq_some_iff.1 hK3).1 (fun e => hDB (by cases e; rfl))).trans hK3; have hrow4 := hown'.kept hg4 (ownsRow_other hown' hv3 (fun cur e => by cases e)); have hb3 : Below w0.heap.size w0 w3 := (hb2.alloc hb2.size _).grown hg3' (by have := hb2.size; simp; omega) (fun k e => (hrow2.lt k e).1); have hb4 : Below w0.heap.size w0 w4 := hb3.grown hg4 hb3.size (fun k e => by cases e; exact h0B); have hk4 : KeepsWalks W w4 := (((hk1.trans hk2).trans (KeepsWalks.alloc _ _)).trans (KeepsWalks.of_grownBy hg3' (ownsRow_no_walk (hrow2.alloc _)))).trans (by rw [← hw4]; exact KeepsWalks.setCell _ _ _); have hd3' : (W2.alloc (.cells #[.int .u32 x.1.val, .int .u32 x.2.val] 37)).drawn ≤ w3.drawn := hd3
  have hd4 : w0.drawn ≤ w4.drawn := by
    rw [← hw4]; refine Nat.le_trans h.drawn (Nat.le_trans (Nat.le_of_eq ?_) hd3'); exact hd2.symm
  clear hw4; refine ⟨_, _, run_endRound none hL4, rfl, ⟨⟨_, (World.putObj_heap_other hBl).trans hv4, ?_⟩, World.putObj_heap_same (Array.getElem?_eq_some_iff.1 hL4).1, (World.putObj_heap_other hDl).trans hK4, hb4.grown (Y0 _ _ _) hb4.size (fun k e => by cases e; exact h0l), hd4⟩, hk4.trans (KeepsWalks.putObj _ hL4 J)⟩; have := hrow4.kept (Y0 w4 l (.loop { { apRec fn sv Bs D .ready none with state := .busy } with state := if (none : Option Code).isNone then .ready else .done, pending := none })) (ownsRow_other hrow4 hL4 (fun cur e => by cases e)); rw [wrV2_snoc, List.length_append]; exact this
set_option maxRecDepth 100000 in
set_option maxHeartbeats 2000000 in
theorem appendSeq_in (F : Fence) (n : Nat) (h11 : F.fn 130) (hro : F.round = none) (hn : 2 ≤ n) (g : Nat) (lb : Array Value) (hFg : F.fn g) (eg : ∀ args w, (callFunc g args).run Tryz.prog w = .ok (.enter g args) w)
    (S : List Wr → Prop) (N : Nat) (hN : N ≤ maxLen) (hNb : N * 8 ≤ 140737488355328) (w : World) (hseq : GivesD F (n - 1) Tryz.prog g lb wrV S N w) :
    CallsIn F n Tryz.prog 130 #[.slice none 0 0, .func (.func g) #[] lb] w fun e w' => ∃ (v : Value) (ss : List Wr), e = .returned v ∧ S ss ∧ w'.ownsRow w.heap.size 37 2 v ss.length (wrV2 ss) ∧ Below w.heap.size w w' ∧ w.drawn ≤ w'.drawn := by
  have h1 : 1 ≤ n := by omega
  refine callsIn_of_wp_marks Tryz.func130 J h11 ?_ hro
  simp only [Tryz.ntmps130, List.size_toArray, List.length_cons, List.length_nil, Nat.reduceAdd, Nat.reduceSub, Array.replicate_succ, Array.replicate_zero, List.push_toArray, List.append_toArray, List.nil_append, List.cons_append]
  gi_wp2
  refine wpIn_rangeFunc ?_
  intro fn hfn; rw [hro]; obtain ⟨W0, hW0⟩ : ∃ W0, w.alloc (.cells #[.slice none 0 0] 64) = W0 := ⟨_, rfl⟩
  have hs0 : W0.heap.size = w.heap.size + 1 := by rw [← hW0]; simp
  have hv0 : W0.heap[w.heap.size]? = some (.cells #[.slice none 0 0] 64 (0, 0)) := by rw [← hW0]; exact World.alloc_heap_new w _
  have hb0 : Below w.heap.size w W0 := by rw [← hW0]; exact (Below.refl _ w).alloc (Nat.le_refl _) _
  rw [hW0]; obtain ⟨W1, hW1⟩ : ∃ W1, (W0.alloc (.deferred (some []))).alloc (.loop (apRec fn (.func (.func g) #[] lb) w.heap.size W0.heap.size .ready none)) = W1 := ⟨_, rfl⟩
  have hold : ∀ k, k < W0.heap.size → W1.heap[k]? = W0.heap[k]? := fun k hk => by
    rw [← hW1]; exact (Below.heap_alloc _ _ k (by simp; omega)).trans (Below.heap_alloc _ _ k hk)
  have hb1 : Below w.heap.size w W1 := by rw [← hW1]; exact (hb0.alloc hb0.size _).alloc (by have := hb0.size; simp; omega) _
  have hs1 : W1.heap.size = W0.heap.size + 2 := by rw [← hW1]; simp
  have hM : ApAt w fn (.func (.func g) #[] lb) w.heap.size (W0.heap.size + 1) W0.heap.size [] W1 :=
    ⟨⟨_, (hold w.heap.size (by omega)).trans hv0, ⟨rfl, .inl ⟨rfl, rfl⟩⟩⟩,
     by rw [← hW1]; have := World.alloc_heap_new (W0.alloc (.deferred (some []))) (.loop (apRec fn (.func (.func g) #[] lb) w.heap.size W0.heap.size .ready none)); rwa [World.size_alloc] at this,
     by rw [← hW1]; exact (Below.heap_alloc _ _ _ (by simp)).trans (World.alloc_heap_new W0 _), hb1, by rw [← hW1, ← hW0]; exact Nat.le_refl _⟩
  refine ⟨W0.heap.size + 1, [{ target := .collected W0.heap.size, args := #[] }], W1, { target := .fn (.func g) lb, args := #[.func (.yield (W0.heap.size + 1)) #[] #[]] }, W1, g,
    #[.func (.yield (W0.heap.size + 1)) #[] #[]] ++ lb, W1, ?_, ?_, ?_, ?_, fun _ => h1, ?_⟩
  · rw [← hW1]; exact run_enterLoop_outer _ _ _ _ _
  · simp [resolve, go_sem]
  · intro f' hf'; simp [Target.leads] at hf'; subst hf'; exact hFg
  · simp [invoke, go_sem, eg]
  · refine (hseq (W0.heap.size + 1) (ApAt w fn (.func (.func g) #[] lb) w.heap.size (W0.heap.size + 1) W0.heap.size) W1 hb1 (ap_abides _ _ _ _ _ _ _ hb1.size)
      (fun pre x W hJ hl => apYield F (n - 1 - 1) w fn hfn _ w.heap.size (W0.heap.size + 1) W0.heap.size (by omega) (by omega) (by omega) (Nat.le_refl _) (by omega) N hN hNb pre x W hJ hl) hM).mono ?_
    rintro e W2 ⟨⟨v0, rfl⟩, ss, hS, h2⟩
    obtain ⟨v, hv, hrow⟩ := h2.box; have hend := run_endLoop (P := Tryz.prog) h2.L (by simp [apRec]); obtain ⟨W3, hW3⟩ : ∃ W3, W2.putObj (W0.heap.size + 1) (.loop { apRec fn (.func (.func g) #[] lb) w.heap.size W0.heap.size .ready none with state := .exhausted }) = W3 := ⟨_, rfl⟩; rw [hW3] at hend
    have hg3 : W2.grownBy W3 (some (W0.heap.size + 1)) := by rw [← hW3]; exact Y0 _ _ _
    have hv3 : W3.heap[w.heap.size]? = some (.cells #[v] 64 (0, 0)) := by rw [← hW3]; exact (World.putObj_heap_other (by omega)).trans hv
    have hK3 : W3.heap[W0.heap.size]? = some (.deferred (some [])) := by rw [← hW3]; exact (World.putObj_heap_other (by omega)).trans h2.K
    have hrow3 := hrow.kept hg3 (ownsRow_other hrow h2.L (fun cur e => by cases e)); have hb3 : Below w.heap.size w W3 := h2.below.grown hg3 h2.below.size (fun k e => by cases e; omega); obtain ⟨hc3, hf3⟩ := cell_of_box hv3
    have hd3 : w.drawn ≤ W3.drawn := by rw [← hW3]; exact h2.drawn
    clear hW3; refine ⟨none, W3, hend, ?_⟩
    gi_wp2
    rw [← hs0]; refine ⟨by simp, .inl ⟨_, _, rfl, run_takeDeferred hK3, ?_⟩⟩; exact ⟨_, results_tmp J _ _ _, v, ss, rfl, hS, hrow3.kept (Y0 _ _ _) (ownsRow_other hrow3 hK3 (fun cur e => by cases e)), hb3.grown (Y0 _ _ _) hb3.size (fun k e => by cases e; omega), hd3⟩
end Go.Proofs.YtlkdkbdgnjcopaaGreat
namespace Go.Own
open Go.RowKit
section
variable {X : Ctx} {L : AL} {B : BL} {ops : Array Oper} {K : Act → World → Prop} {r : Pl} {k : Kd}
  {x y z : Operand} {d : Nat} {t t2 t' : TypeId} {pos : String} {af : Array Edge} {g : Option (Nat × Bool)}
theorem Ops.appRow (i : Nat) {j el n bytes : Nat} {zv : Value} {cs : List CT} (m : Nat) (hg : gd ops L g = some true) (hx : ev L x = some (.ct (.ex (.slice none 0 0)))) (hy : ev L y = some (.own j)) (hj : bget B j = some (.row el n cs)) (hT : SlcT X.P t el n bytes zv) (hl : cs.length = m * n) (ho : ones cs = true) (hb : m * bytes ≤ 140737488355328) (hmx : m ≤ 140737488355328) (hN : noN i L = true) (hB : bget B i = none) (hn : Nat.blt d X.n = true)
    (h : Ops X ops r ((d, .own i) :: L) ((i, .row el n cs) :: B) K) : Ops X ops (.cons ⟨some d, .call { callee := .builtin .append, args := #[x, y], argTypes := #[t, t] }, t', pos, af, g⟩ .any r) L B K :=
  Ops.mkE (k := .any) rfl hg rfl hn hN hB (fun a ρ w hI => by
    have hy1 : a.eval y = ρ j := hI.ev hy
    obtain ⟨nf, h1, h2, h3, h4⟩ := hT.inf
    obtain ⟨m', vs, hown, hc⟩ := (hI.ent j _ hj).1
    have hlv := hc.length
    rw [hown.1, hl] at hlv
    have hmm : m' = m := Nat.eq_of_mul_eq_mul_right hT.pos hlv
    subst hmm
    have hmax : 0 + m' ≤ maxLen := by simp only [maxLen]; omega
    have key : ∃ v' w', (Builtin.append_ #[t, t] t' #[.slice none 0 0, ρ j]).run X.P w = .ok v' w' ∧ w'.ownsRow 0 el n v' (0 + m') ([] ++ vs) ∧ w.grownBy w' (Value.slice none 0 0).ownBlock ∧ (blk v' = blk (.slice none 0 0) ∨ ∀ g, blk v' = some g → w.heap.size ≤ g) := by
      have how : w.ownsRow 0 el n (.slice none 0 0) 0 [] := World.ownsRow_nil _ _ _ _; rcases hown.2 with ⟨e1, e2⟩ | ⟨gb, cap, cur, e1, e2⟩
      · have e0 : vs = [] ∧ m' = 0 := by
          have h5 := hown.1; rw [e2, Nat.zero_mul] at h5; exact ⟨List.length_eq_zero_iff.1 h5, e2⟩
        obtain ⟨e3, e4⟩ := e0; subst e3; subst e4; rw [e1]; exact ⟨.slice none 0 0, w, by simp [Builtin.append_, run_underlying hT.und, sizeOf, typeInfo, h1, Builtin.lenOf, Builtin.firstCells], how, ⟨rfl, rfl, rfl, Nat.le_refl _, fun _ _ _ => rfl⟩, .inl J⟩
      · rw [e1]; rw [e1] at hown; exact Yw (P := X.P) w t t' el nf zv n bytes hT.und h1 h4 h2 h3 hT.zs hT.pos _ 0 [] how ⟨gb, 0, none⟩ m' cap vs hown.1 (hown.cells (g := gb) J) (ones_cells ho hc) hmax (by simpa using hb)
    obtain ⟨v', w', r1, r3, r4, r5⟩ := key
    refine ⟨v', w', Zg (args := [x, y]) (fun _ => by
      simp only [List.map_cons, List.map_nil, hI.evx hx, hy1]
      exact Xf r1), ⟨r4.os, r4.tape, r4.output, r4.size, fun q hq => r4.block q hq (fun e => by cases e), run_drawn _ _ r1⟩, fun gb hgb => ?_, fun S' hk => ⟨0 + m', [] ++ vs, r3, hc.mono hk⟩⟩
    rcases r5 with h5 | h5
    · rw [h5] at hgb; cases hgb
    · exact h5 gb hgb) h
theorem Ops.frz {l : Pl} (i : Nat) {e : Ent} (T : Ty) (hi : bget B i = some e) (hT : e.frozen T) (hS : Own.okFix X i) (h : Ops X ops l (frzL i T L) (bdel B i) K) (hf : noFix X i = true := by rfl) : Ops X ops l L B K := Fin.frz i T hi hT hS h hf
end
variable {X : Ctx} {L : AL} {B : BL} {ops : Array Oper} {K : Act → World → Prop} {r : Pl} {k : Kd}
  {x y z : Operand} {d : Nat} {t t2 t' : TypeId} {pos : String} {af : Array Edge} {g : Option (Nat × Bool)}
def postJ (X : Ctx) (el m : Nat) (J : List CT → Prop) : Ending → World → Prop := fun e w' => ∃ D, J D ∧ postF X el m D e w'
def OkJ (P : Program) (f : FuncId) (As : List CT) (el m : Nat) (J : List CT → Prop) : Prop :=
  ∀ (S : BSet) (w : World) (vs : List Value), (∀ k, w.heap.size ≤ k → S k) → cells S w As vs →
    Calls P f vs.toArray w (postJ { P := P, n := 0, S0 := S, w0 := w, bor := noBor } el m J)
theorem OkJ.enter {P : Program} {f : FuncId} {fn : Func} {c : Code} {As : List CT} {el m : Nat} {J : List CT → Prop} (hf : P.funcs[f]? = some fn) (hb : fn.body = some c) (n : Nat) (hn : fn.ntmps = n) (ha : Nat.ble As.length n = true)
    (h : ∀ S w, St { P := P, n := n, S0 := S, w0 := w, bor := noBor } (argL 0 As) [] c (bodyPost P fn (postJ { P := P, n := n, S0 := S, w0 := w, bor := noBor } el m J))) : OkJ P f As el m J := by
  intro S w vs hS hA; have hl := hA.length; have hle := Nat.le_of_ble_eq_true ha; refine calls_of_wp hf hb (h S w _ (fun _ => undef) w ?_)
  have hSof : ∀ k, S k → Sof { P := P, n := n, S0 := S, w0 := w, bor := noBor } [] (fun _ => undef) k := fun k hk => ⟨hk, fun i e hi => by cases hi⟩
  refine ⟨by simp [hn]; omega, rfl, fun d s hd => ?_, (fun i e hi => by cases hi), (fun i j e e' hi => by cases hi), ⟨rfl, rfl, rfl, Nat.le_refl _, fun _ _ _ => rfl, Nat.le_refl _⟩, hS, (fun p hp => by cases hp)⟩; obtain ⟨v, c', _, h2, rfl, h4⟩ := look_argL hA hd
  have hlt : d < vs.length := by rw [Nat.sub_zero] at h2; exact (List.getElem?_eq_some_iff.1 h2).1
  have : (vs.toArray ++ Array.replicate (fn.ntmps - vs.toArray.size) undef).getD d undef = v := by
    rw [Array.getD_eq_getD_getElem?, Array.getElem?_append_left (by simpa using hlt)]; rw [Nat.sub_zero] at h2; simp [h2]
  show c'.p _ w _; rw [this]; exact CT.mono (S := S) ⟨Nat.le_refl _, fun k _ hk => ⟨hSof k hk, rfl⟩⟩ h4
theorem Fin.retJ {fn : Func} {s i el m : Nat} {J : List CT → Prop} {D : List CT} (hfn : fn.results = #[.tmp s]) (hs : look L s = some (.own i)) (hi : bget B i = some (.row el m D)) (hb : X.bor = noBor) (hJ : J D) : Fin X L B (fun a w => bodyPost X.P fn (postJ X el m J) .ret a w) := by
  refine Fin.up (fun a w h => ?_) (Y3 hfn hs hi hb); have h : a.defers = [] ∧ ∃ v, (results fn a.tmps).run X.P w = .ok v w ∧ postF X el m D (.returned v) w := h; obtain ⟨h1, v, h2, h3⟩ := h; exact ⟨h1, v, h2, D, hJ, h3⟩
theorem Ops.callJ (i : Nat) {f : FuncId} {el m : Nat} {args : List Operand} {tys : Array TypeId} {As : List CT} {J : List CT → Prop} (hgo : InGo X.P f) (hok : OkJ X.P f As el m J) (hg : gd ops L g = some true) (hargs : evs L args = some As) (hk : k.mk = true) (hN : noN i L = true) (hB : bget B i = none) (hn : Nat.blt d X.n = true)
    (h : ∀ D, J D → Ops X ops r ((d, .own i) :: L) ((i, .row el m D) :: B) K) : Ops X ops (.cons ⟨some d, .call { callee := .value (.func f), args := args.toArray, argTypes := tys }, t, pos, af, g⟩ k r) L B K := fun a ρ w hI => by
  refine wpX_makes k hk ?_
  unfold wpO
  rw [if_pos (Zu (o := ⟨some d, _, t, pos, af, g⟩) hI hg)]
  unfold Oper.wp
  have hrun : (execOp a.eval ⟨some d, .call { callee := .value (.func f), args := args.toArray, argTypes := tys }, t, pos, af, g⟩).run X.P w = .ok (.enter f (args.map a.eval).toArray) w := by
    show (do let D ← resolve a.eval { callee := .value (.func f), args := args.toArray, argTypes := tys } t; invoke D.target D.args : Sem Next).run X.P w = _; have hf : a.eval (.func f) = .func (.func f) #[] #[] := rfl; simp only [resolve, hf, Deferred.ofValue, Sem.run_bind, Sem.run_pure, Result.andThen_ok, invoke]; rw [hgo]
    congr 2
    simp
  rw [hrun]
  refine Calls.mono (hok (Sof X B ρ) w _ hI.freshS (hI.evs hargs)) ?_
  rintro e w' ⟨D, hJ, v, rfl, ⟨n', us, how, hc⟩, h1, hb⟩
  have hW := hI.new (v := v) (e := .row el m (us.map CT.ex)) hN hB hb h1 (fun S' _ => ⟨n', us, how, Zf _⟩)
  have hR := hW.retype (i := i) (e' := .row el m D) (XV ..) (by
    rw [Z1]; refine ⟨n', us, how, hc.mono ⟨Nat.le_refl _, fun q _ hq => ⟨⟨hq.1.1, fun j e' hj hbk => ?_⟩, rfl⟩⟩⟩; by_cases hji : j = i
    · subst hji; rw [Z1] at hbk; exact hq.2 hbk
    · rw [Xq _ _ (Ne.symm hji)] at hj; rw [Yy _ _ hji] at hbk; exact hq.1.2 j e' hj hbk) Y
  have hbs : bset ((i, Ent.row el m (us.map CT.ex)) :: B) i (.row el m D) = (i, .row el m D) :: B := by simp only [bset, Nat.beq_refl]
  rw [hbs] at hR; exact ⟨hb, h D hJ _ _ w' (hR.put (s := .own i) (Xh hn) (by show _ = upd ρ i _ i; rw [Z1]))⟩
theorem Fin.frzMs (i dd : Nat) {v : Value} {kv : List (Value × CT)} (hi : bget B i = some (.mpx v kv)) (hd : look L dd = some (.ct (.ex v))) (hS : okFix X i) (h : Fin X ((dd, .ct (.fr (mapT kv))) :: L) (bdel B i) K) (hf : noFix X i = true := by rfl) : Fin X L B K := fun a ρ w hI => by
  obtain ⟨h2, h3⟩ := (hI.ent i _ hi).1
  have hv : (mapT kv).p (Sof X (bdel B i) ρ) w (ρ i) := hI.frozen_val (e2 := .mp kv) hi rfl h3 (hI.okFix hi hS)
  have h1 : a.tmps.getD dd undef = v := hI.slot dd _ hd
  exact h a ρ w ((hI.dropB i hf).slotx (s := .ct (.fr (mapT kv))) (by rw [h1, ← h2]; exact hv))
theorem St.frzMs {c : Code} {Q : Exit → Act → World → Prop} (i dd : Nat) {v : Value} {kv : List (Value × CT)} (hi : bget B i = some (.mpx v kv)) (hd : look L dd = some (.ct (.ex v))) (hS : okFix X i) (h : St X ((dd, .ct (.fr (mapT kv))) :: L) (bdel B i) c Q) (hf : noFix X i = true := by rfl) : St X L B c Q := Fin.frzMs i dd hi hd hS h hf
theorem Ops.neK {ks : List IntKind} (ps qs : List Int) (hg : gd ops L g = some true) (hx : ev L x = some (.ct (.fr (aggT (kc ks ps))))) (hy : ev L y = some (.ct (.fr (aggT (kc ks qs))))) (h1 : ps.length = ks.length) (h2 : qs.length = ks.length) (hE : FlatK X.P t ks) (hG : X.P.eqGuardType X.P.depth t = false) (hn : Nat.blt d X.n = true)
    (h : Ops X ops r ((d, .ct (.ex (.bool (!decide (ps = qs))))) :: L) B K) : Ops X ops (.cons ⟨some d, .binOp .neq t x y t2, t', pos, af, g⟩ k r) L B K :=
  X7 (s := .ct (.ex (.bool (!decide (ps = qs))))) hg rfl hn (fun a ρ w hI => ⟨_, fun w' _ => by
    obtain ⟨us, e1, c1⟩ := hI.ev hx
    obtain ⟨vs, e2, c2⟩ := hI.ev hy
    have d1 := Y9 h1 c1
    have d2 := Y9 h2 c2
    subst d1; subst d2
    show (do pure (Next.value (← (do eqGuard .neq t x y (a.eval x) (a.eval y); binOp .neq t (a.eval x) (a.eval y) : Sem Value))) : Sem Next).run X.P w' = _
    rw [e1, e2]
    refine Xf ?_
    simp only [Sem.run_bind, run_eqGuard_agg w' _ t x y _ _ hG, Result.andThen_ok]
    have := hE.eq ps qs w' h1 h2
    unfold Go.Own.encI at this
    rw [run_neq_struct, this]; rfl, rfl⟩) h
end Go.Own
namespace Go.Proofs.YtlkdkbdgnjcopaaGreat
open Go.Shelf
def laySortW_ren : Go.Shelf.Ren := ⟨fun | 6 => 76 | 15 => 118 | 14 => 117 | 28 => 155 | 29 => 156 | 20 => 147 | 21 => 148 | 22 => 149 | 23 => 150 | 24 => 151 | 25 => 152 | 26 => 153 | 27 => 154 | 46 => 181 | 47 => 182 | 48 => 183 | 49 => 184 | 50 => 185 | 57 => 198 | n => n, fun | 22 => 64 | 24 => 37 | 25 => 106 | 3 => 3 | 39 => 172 | 0 => 0 | 53 => 26 | 55 => 153 | 4 => 4 | 46 => 201 | 45 => 200 | 50 => 205 | 5 => 5 | 9 => 9 | 66 => 227 | 70 => 231 | 76 => 240 | 77 => 241 | n => n, fun | n => n⟩
theorem laySortW : Go.Proofs.SlLaysF0.n6 Tryz.prog laySortW_ren := {
  mixed := by kernel_rfl
  f6 := ⟨Tryz.f76.name, by decide, Tryz.func76.trans (congrArg some (by kernel_rfl))⟩
  f14 := ⟨Tryz.f117.name, by decide, Tryz.func117.trans (congrArg some (by kernel_rfl))⟩
  f15 := Tryz.func118.trans (congrArg some (by kernel_rfl))
  f20 := ⟨Tryz.f147.name, by decide, Tryz.func147.trans (congrArg some (by kernel_rfl))⟩
  f21 := ⟨Tryz.f148.name, by decide, Tryz.func148.trans (congrArg some (by kernel_rfl))⟩
  f22 := ⟨Tryz.f149.name, by decide, Tryz.func149.trans (congrArg some (by kernel_rfl))⟩
  f23 := ⟨Tryz.f150.name, by decide, Tryz.func150.trans (congrArg some (by kernel_rfl))⟩
  f24 := ⟨Tryz.f151.name, by decide, Tryz.func151.trans (congrArg some (by kernel_rfl))⟩
  f25 := ⟨Tryz.f152.name, by decide, Tryz.func152.trans (congrArg some (by kernel_rfl))⟩
  f26 := ⟨Tryz.f153.name, by decide, Tryz.func153.trans (congrArg some (by kernel_rfl))⟩
  f27 := ⟨Tryz.f154.name, by decide, Tryz.func154.trans (congrArg some (by kernel_rfl))⟩
  f28 := Tryz.func155.trans (congrArg some (by kernel_rfl))
  f29 := Tryz.func156.trans (congrArg some (by kernel_rfl))
  f46 := ⟨Tryz.f181.name, by decide, Tryz.func181.trans (congrArg some (by kernel_rfl))⟩
  f47 := Tryz.func182.trans (congrArg some (by kernel_rfl))
  f48 := Tryz.func183.trans (congrArg some (by kernel_rfl))
  f49 := ⟨Tryz.f184.name, by decide, Tryz.func184.trans (congrArg some (by kernel_rfl))⟩
  f50 := ⟨Tryz.f185.name, by decide, Tryz.func185.trans (congrArg some (by kernel_rfl))⟩
  f57 := ⟨Tryz.f198.name, by decide, Tryz.func198.trans (congrArg some (by kernel_rfl))⟩
  t0 := Tryz.underlying0
  a0 := Tryz.isAgg0
  z0 := Tryz.sizeOf0
  v0 := Tryz.zeroValue0
  t3 := Tryz.underlying3
  a3 := Tryz.isAgg3
  z3 := Tryz.sizeOf3
  v3 := Tryz.zeroValue3
  t4 := Tryz.underlying4
  a4 := Tryz.isAgg4
  z4 := Tryz.sizeOf4
  v4 := Tryz.zeroValue4
  t5 := Tryz.underlying5
  a5 := Tryz.isAgg5
  z5 := Tryz.sizeOf5
  v5 := Tryz.zeroValue5
  t9 := Tryz.underlying9
  a9 := Tryz.isAgg9
  z9 := Tryz.sizeOf9
  v9 := Tryz.zeroValue9
  t22 := Tryz.underlying64
  a22 := Tryz.isAgg64
  z22 := Tryz.sizeOf64
  v22 := Tryz.zeroValue64
  t25 := Tryz.underlying106
  a25 := Tryz.isAgg106
  z25 := Tryz.sizeOf106
  v25 := Tryz.zeroValue106
  t39 := Tryz.underlying172
  a39 := Tryz.isAgg172
  z39 := Tryz.sizeOf172
  v39 := Tryz.zeroValue172
  t45 := Tryz.underlying200
  a45 := Tryz.isAgg200
  z45 := Tryz.sizeOf200
  v45 := Tryz.zeroValue200
  t46 := Tryz.underlying201
  a46 := Tryz.isAgg201
  z46 := Tryz.sizeOf201
  v46 := Tryz.zeroValue201
  t50 := Tryz.underlying205
  a50 := Tryz.isAgg205
  z50 := Tryz.sizeOf205
  v50 := Tryz.zeroValue205
  t53 := Tryz.underlying26
  a53 := Tryz.isAgg26
  z53 := Tryz.sizeOf26
  v53 := Tryz.zeroValue26
  t55 := Tryz.underlying153
  a55 := Tryz.isAgg153
  z55 := Tryz.sizeOf153
  v55 := Tryz.zeroValue153
  t66 := Tryz.underlying227
  a66 := Tryz.isAgg227
  z66 := Tryz.sizeOf227
  v66 := Tryz.zeroValue227
  t70 := Tryz.underlying231
  a70 := Tryz.isAgg231
  z70 := Tryz.sizeOf231
  v70 := Tryz.zeroValue231
  t76 := Tryz.underlying240
  a76 := Tryz.isAgg240
  z76 := Tryz.sizeOf240
  v76 := Tryz.zeroValue240
  t77 := Tryz.underlying241
  a77 := Tryz.isAgg241
  z77 := Tryz.sizeOf241
  v77 := Tryz.zeroValue241 }
end Go.Proofs.YtlkdkbdgnjcopaaGreat
namespace Go.Proofs.YtlkdkbdgnjcopaaGreat
open Go.Own Go.Limbs Go.Shelf
open Go.Sort hiding Ok
attribute [local irreducible] St Ops Go.Own.Fin Ok OkB OkN OkT OkL OkF
def cmpW (a b : Wr) : Int := cmpL (wrI a) (wrI b)
theorem ordW : Ord cmpW where
  anti a b := cmpL_anti _ _
  eq0 a b h := wrI_inj a b (cmpL_eq (xs := wrI a) (ys := wrI b) rfl h)
  trans a b c := cmpL_trans (xs := wrI a) (ys := wrI b) (zs := wrI c) rfl rfl
theorem ms_nodup {α : Type} [DecidableEq α] {cf : α → α → Int} (O : Ord cf) {l m : List α} (hp : l.Perm m) (hn : m.Nodup) : (l.mergeSort fun x y => !(ltOf cf) y x) = sd cf m := by
  have h := List.pairwise_mergeSort (le := fun x y => !(ltOf cf) y x) (fun a b c h1 h2 => by
      simp only [ltOf, Bool.not_eq_true', decide_eq_false_iff_not] at *; intro h; rcases Int.lt_trichotomy (cf c b) 0 with h3 | h3 | h3
      · exact h2 h3
      · rw [O.eq0 c b h3] at h; exact h1 h
      · exact h1 (O.trans b c a (by rw [O.anti c b]; omega) h)) (fun a b => by
      simp only [ltOf, Bool.or_eq_true, Bool.not_eq_true', decide_eq_false_iff_not]
      rw [O.anti a b]; omega) l
  have hnd : (l.mergeSort fun x y => !(ltOf cf) y x).Nodup := ((List.mergeSort_perm l _).trans hp).symm.nodup hn
  refine Up.ext O ?_ (Zt O m).1 (fun x => by rw [(Zt O m).2 x, List.mem_mergeSort, hp.mem_iff])
  refine (h.and hnd).imp (fun {a b} hab => ?_); obtain ⟨h1, h2⟩ := hab; simp only [ltOf, Bool.not_eq_true', decide_eq_false_iff_not] at h1; rw [O.anti a b] at h1
  have : cf a b ≠ 0 := fun e => h2 (O.eq0 a b e)
  omega
theorem goAll1 : InGo Tryz.prog 49 := InGo.of Tryz.func49 rfl (by decide)
theorem All1_ok (a b : Wr) : Ok Tryz.prog 49 [wrC a, wrC b] (intC (cmpW a b)) := by
  have e0 : cmpW a b = firstN [cmp3 a.1.val b.1.val, cmp3 a.2.val b.2.val] := by
    unfold cmpW wrI; simp only [cmpL, firstN]
  rw [e0]; clear e0; have h1 := cmA_ok (a.1.val : Int) (b.1.val : Int); have h2 := cmA_ok (a.2.val : Int) (b.2.val : Int); have hO := Or_ok [cmp3 a.1.val b.1.val, cmp3 a.2.val b.2.val] (by simp); generalize cmp3 (a.1.val : Int) (b.1.val : Int) = c1 at h1 hO ⊢; generalize cmp3 (a.2.val : Int) (b.2.val : Int) = c2 at h2 hO ⊢
  refine Ok.enter Tryz.func49 J _ Tryz.ntmps49 J ?_
  intro S w; refine Qw (Qx fun K hK => ?_); refine Xz 0 J J J J J J J (Xz 1 J J J J J J J (Qv J J J (Qj (hK _ _ (Qz (Qw ?_)))))); clear hK K; refine Xw mixed 13 (.p 0 (.p 2 (.p 5 (.p 7 (.f 1 (.f 3 (.f 6 (.f 8 (.m 4 (.m 9 (.m 10 (.m 11 (.p 12 .done))))))))))))) (by kernel_rfl) (fun K hK => ?_); refine QV J J J fWr0 J (QV J J J fWr0 J (QV J J J fWr1 J (QV J J J fWr1 J (QY J J J J J lAddr J (QY J J J J J lAddr J (QY J J J J J lAddr J (QY J J J J J lAddr J (QW gocmA h1 J J J J (QW gocmA h2 J J J J (YV [c1, c2] rfl rfl sInts J ⟨rfl, rfl, rfl, rfl, trivial⟩ (by decide) J ?_)))))))))); refine QW goOr hO J J J J (Qv J J J (Qj (hK _ _ (Qz (Q0 ?_))))); clear hK K; refine QU [_] rfl (Qu J QQ) J J
abbrev cmpWV : CT := .ex (.func (.func 49) #[] #[])
theorem goSortW : InGo Tryz.prog 76 := InGo.of Tryz.func76 rfl (by decide)
theorem SortW_ok (l : List Wr) (hl : l.length < 4611686018427387904) : OkL Tryz.prog 76 37 2 (wrs l) [cmpWV] unitC (wrs (l.mergeSort fun x y => !(ltOf cmpW) y x)) :=
  sortFunc_L laySortW (enc := wr2) (k := 2) (cf := cmpW) (g := 49) (by decide) Tryz.isAgg37 Tryz.sizeOf37 (fun _ => rfl) (fun x v hv => one_two x v hv)
    ordW.swo ordW.tot goAll1 All1_ok 37 l hl
def wrE (x : Wr) : Value := Go.Own.encI [.u32, .u32] (wrI x)
abbrev keysC (kv : List (Value × CT)) : CT := .fr (closT 95 [.fr (ptrT [.fr (mapT kv)])])
theorem goKeys : InGo Tryz.prog 48 := InGo.of Tryz.func48 rfl (by decide)
theorem Keys_ok (kv : List (Value × CT)) : Ok Tryz.prog 48 [.fr (mapT kv)] (keysC kv) := by
  refine Ok.enter Tryz.func48 J _ Tryz.ntmps48 J ?_
  intro S w; refine Qw (Qx (fun K hK => ?_)); refine Ops.box1 0 J J J J J J J (Qv J J J (Qj (hK _ _ (Qz (Qw ?_))))); clear hK K; refine Qx (fun K hK => ?_); refine Zx 0 _ J J noBor_sub (Ops.makeFunc J J J (Qv J J J (Qj (hK _ _ (Qz (Q0 ?_)))))); clear hK K; refine QU [_] rfl (Qu J QQ) J J
theorem wr2_cells (S : BSet) (w : World) : ∀ l : List Wr, cells S w (wrs l) (wrV2 l)
  | [] => trivial
  | x :: l => by
    have e1 : wrs (x :: l) = wrCs x ++ wrs l := by simp [wrs]
    have e2 : wrV2 (x :: l) = wr2 x ++ wrV2 l := by simp [wrV2]
    rw [e1, e2]
    exact cells.append ⟨rfl, rfl, trivial⟩ (wr2_cells S w l)
theorem ownsRow_low {W : World} {base base' : Nat} {e : TypeId} {size : Nat} {v : Value} {k : Nat} {xs : List Value} (h : W.ownsRow base e size v k xs) (hb : base' ≤ base) : W.ownsRow base' e size v k xs := by
  refine ⟨h.1, ?_⟩; rcases h.2 with hn | ⟨g, cap, cur, hv, hbg, rest⟩
  · exact .inl hn
  · exact .inr ⟨g, cap, cur, hv, Nat.le_trans hb hbg, rest⟩
def KeysJ (ks : List Wr) (D : List CT) : Prop := ∃ ss : List Wr, ss.Perm ks ∧ D = wrs ss
theorem goAppendSeq : InGo Tryz.prog 130 := InGo.of Tryz.func130 (by kernel_rfl) (by kernel_rfl)
theorem goKeys1 : InGo Tryz.prog 95 := InGo.of Tryz.func95 (by kernel_rfl) (by kernel_rfl)
theorem AppendSeq_ok {β : Type} (cv : β → CT) (al : List (Wr × β)) (hl : al.length ≤ 1000000000) : OkJ Tryz.prog 130 [.ex (.slice none 0 0), keysC (kvs wrE cv al)] 37 2 (KeysJ (al.map (·.1))) := by
  intro S w vs hS hA
  obtain ⟨v0, v1, rfl⟩ : ∃ v0 v1, vs = [v0, v1] := by
    have := hA.length
    match vs, this with
    | [a, b], _ => exact ⟨a, b, rfl⟩
  obtain ⟨h0, h1, _⟩ := hA; have h0 : v0 = .slice none 0 0 := h0; subst h0; obtain ⟨lb, h1, h2⟩ := h1
  obtain ⟨p0, rfl⟩ : ∃ p0, lb = [p0] := by
    have := h2.length
    match lb, this with
    | [a], _ => exact ⟨a, rfl⟩
  obtain ⟨⟨Bm, o, rfl, hSB, hBm, us, hc, hu⟩, _⟩ := h2
  obtain ⟨u, rfl⟩ : ∃ u, us = [u] := by
    have := hc.length
    match us, this with
    | [a], _ => exact ⟨a, rfl⟩
  obtain ⟨⟨b, hb1, hSb, hbl, es, clock, hb, hk, _, hst⟩, _⟩ := hc
  have hm : w.cell? ⟨Bm, o, none⟩ = some (.map (some b)) := by
    have := hu 0 u J; rw [hb1] at this; exact this
  have hk : es.toList.map (·.key) = (al.map (·.1)).map wrV := by rw [hk, kvs, List.map_map, List.map_map]; rfl
  have hin : ∀ args w, (callFunc 95 args).run Tryz.prog w = .ok (.enter 95 args) w := goKeys1; have hit := keysIt Fence.wide 2 trivial J (by omega) w Bm o b es clock (al.map (·.1)) hBm hm hb hst hk; have key := callsIn_wide.1 (appendSeq_in Fence.wide 3 trivial J (by omega) 95 #[.pointer (some ⟨Bm, o, none⟩)] trivial hin (fun ss => ss.Perm (al.map (·.1))) (al.map (·.1)).length (by rw [List.length_map]; unfold maxLen; omega) (by rw [List.length_map]; omega) w hit); rw [h1]
  refine key.mono ?_
  rintro e w' ⟨v, ss, rfl, hss, hrow, hbe, hdr⟩
  refine ⟨wrs ss, ⟨ss, hss, rfl⟩, v, rfl, ⟨ss.length, wrV2 ss, ownsRow_low hrow (Nat.zero_le _), wr2_cells _ _ _⟩, fun g hg => ?_, Own.Below.of hbe hdr⟩; rcases hrow.2 with ⟨rfl, _⟩ | ⟨g', cap, cur, rfl, hbg, _⟩
  · cases hg
  · injection hg with hg; subst hg; exact hbg
theorem goCollect : InGo Tryz.prog 94 := InGo.of Tryz.func94 rfl (by decide)
theorem Collect_ok {β : Type} (cv : β → CT) (al : List (Wr × β)) (hl : al.length ≤ 1000000000) : OkJ Tryz.prog 94 [keysC (kvs wrE cv al)] 37 2 (KeysJ (al.map (·.1))) := by
  refine OkJ.enter Tryz.func94 J _ Tryz.ntmps94 J ?_
  intro S w; refine Qw (Qx fun K hK => ?_); refine Qv J J J (Qj (hK _ _ (Qz (Qw ?_)))); clear hK K; refine Qx (fun K hK => ?_); refine Qq J J J (Ops.callJ 0 goAppendSeq (AppendSeq_ok cv al hl) J J J J J J (fun D hD => ?_)); refine Qv J J J (Qj (hK _ _ (Qz (Q0 ?_)))); clear hK K; refine Fin.retJ J J J J hD
theorem goSortedW : InGo Tryz.prog 47 := InGo.of Tryz.func47 rfl (by decide)
theorem SortedW_ok {β : Type} (cv : β → CT) (al : List (Wr × β)) (hl : al.length ≤ 1000000000) (hn : (al.map (·.1)).Nodup) : OkF Tryz.prog 47 [keysC (kvs wrE cv al), cmpWV] 37 2 (wrs (sd cmpW (al.map (·.1)))) := by
  refine OkF.enter Tryz.func47 J _ Tryz.ntmps47 J ?_
  intro S w; refine Qw (Qx fun K hK => ?_); refine Qv J J J (Qj (hK _ _ (Qz (Qw ?_)))); clear hK K; refine Qx (fun K hK => ?_); refine Qq J J J (Ops.callJ 0 goCollect (Collect_ok cv al hl) J J J J J J (fun D hD => ?_)); obtain ⟨ss, hp, rfl⟩ := hD; have hs := SortW_ok ss (by have := hp.length_eq; rw [List.length_map] at this; omega); rw [ms_nodup ordW hp hn] at hs; refine Qv J J J (Qj (hK _ _ (Qz (Qw ?_)))); clear hK K; refine Qx (fun K hK => ?_); refine Qq J J J (Qq J J J (Ops.callL goSortW hs J J J J J (Qj (hK _ _ (Qz (Qw ?_)))))); clear hK K; refine Qx (fun K hK => ?_); refine Qq J J J (Qv J J J (Qj (hK _ _ (Qz (Q0 ?_))))); clear hK K; refine Y3 J J J J
end Go.Proofs.YtlkdkbdgnjcopaaGreat
namespace Go.Proofs.YtlkdkbdgnjcopaaGreat
open Go.Own Go.Limbs
section
variable {κ β : Type} [DecidableEq κ]
theorem ins_keys (l : List (κ × β)) (a : κ) (b : β) : (ins l a b).map (·.1) = if a ∈ l.map (·.1) then l.map (·.1) else l.map (·.1) ++ [a] := by
  induction l with
  | nil => rfl
  | cons p l ih =>
    obtain ⟨k, v⟩ := p; simp only [ins, List.map_cons, List.mem_cons]; by_cases h : a = k
    · subst h; simp
    · rw [if_neg h, List.map_cons, ih]; by_cases h2 : a ∈ l.map (·.1)
      · rw [if_pos h2, if_pos (.inr h2)]
      · rw [if_neg h2, if_neg (fun h3 => h3.elim h h2)]; rfl
theorem ins_nodup {l : List (κ × β)} (h : (l.map (·.1)).Nodup) (a : κ) (b : β) : ((ins l a b).map (·.1)).Nodup := by
  rw [ins_keys]; split
  · exact h
  · rename_i h2
    rw [List.nodup_append]; refine ⟨h, by simp, fun x hx y hy e => ?_⟩; rw [List.mem_singleton] at hy; exact h2 (by rw [← hy, ← e]; exact hx)
theorem ins_len (l : List (κ × β)) (a : κ) (b : β) : (ins l a b).length ≤ l.length + 1 := by
  have := congrArg List.length (ins_keys l a b); rw [List.length_map] at this; rw [this]; split
  · rw [List.length_map]; omega
  · rw [List.length_append, List.length_map]; exact Nat.le_refl _
theorem look1_some (l : List (κ × β)) (a : κ) : (look1 l a).isSome = true ↔ a ∈ l.map (·.1) := by
  induction l with
  | nil => simp [look1]
  | cons p l ih =>
    obtain ⟨k, v⟩ := p; simp only [look1, List.map_cons, List.mem_cons]; by_cases h : a = k
    · simp [h]
    · rw [if_neg h, ih]; exact ⟨.inr, fun h2 => h2.resolve_left h⟩
end
abbrev AlM := List (Wr × (Int × Int))
abbrev CrM := List (Wr × Bool)
def tickV (an : Bool) (c : Int × Int) : Int × Int := (c.1 + 1, if an = true then c.2 else c.2 + 1)
def tickS (an : Bool) (s : AlM × CrM) (w : Wr) : AlM × CrM :=
  if (look1 s.2 w).getD false = true then s else (ins s.1 w (tickV an ((look1 s.1 w).getD (0, 0))), ins s.2 w true)
def tickR (wy : Rs → List Wr) (m : AlM) (r : Rs) : AlM := ((wy r).foldl (tickS r.an) (m, [])).1
def tickF (wy : Rs → List Wr) (o : List Rs) : AlM := o.foldl (tickR wy) []
theorem tickS_look (an : Bool) (w : Wr) : ∀ (ws : List Wr) (s : AlM × CrM), (∀ v, (look1 s.2 v).getD false = true → (look1 s.2 v).getD false = true) →
    look1 (ws.foldl (tickS an) s).1 w = if w ∈ ws ∧ (look1 s.2 w).getD false = false then some (tickV an ((look1 s.1 w).getD (0, 0))) else look1 s.1 w
  | [], s, _ => by rw [if_neg (by simp)]; rfl
  | v :: ws, s, _ => by
    rw [List.foldl_cons, tickS_look an w ws _ (fun _ h => h)]
    unfold tickS
    by_cases hv : (look1 s.2 v).getD false = true
    · rw [if_pos hv]
      by_cases e : w = v
      · subst e
        rw [if_neg (by rw [hv]; simp), if_neg (by rw [hv]; simp)]
      · simp only [List.mem_cons, e, false_or]
    · rw [if_neg hv]
      simp only [look1_ins]
      by_cases e : w = v
      · subst e
        rw [if_pos rfl, if_pos rfl, if_neg (by simp), if_pos ⟨List.mem_cons_self .., by simpa using hv⟩]
      · rw [if_neg e, if_neg e]
        simp only [List.mem_cons, e, false_or]
theorem tickS_len (an : Bool) : ∀ (ws : List Wr) (s : AlM × CrM), (ws.foldl (tickS an) s).1.length ≤ s.1.length + ws.length
  | [], s => Nat.le_refl _
  | v :: ws, s => by
    rw [List.foldl_cons, List.length_cons]
    refine Nat.le_trans (tickS_len an ws _) ?_
    unfold tickS
    split
    · omega
    · have := ins_len s.1 v (tickV an ((look1 s.1 v).getD (0, 0)))
      dsimp only
      omega
theorem tickS_nodup (an : Bool) : ∀ (ws : List Wr) (s : AlM × CrM), (s.1.map (·.1)).Nodup → ((ws.foldl (tickS an) s).1.map (·.1)).Nodup
  | [], s, h => h
  | v :: ws, s, h => by
    rw [List.foldl_cons]
    refine tickS_nodup an ws _ ?_
    unfold tickS
    split
    · exact h
    · exact ins_nodup h _ _
theorem tickR_look (wy : Rs → List Wr) (m : AlM) (r : Rs) (w : Wr) : look1 (tickR wy m r) w = if w ∈ wy r then some (tickV r.an ((look1 m w).getD (0, 0))) else look1 m w := by
  unfold tickR; rw [tickS_look r.an w (wy r) (m, []) (fun _ h => h)]; simp [look1]
theorem tickF_nodup (wy : Rs → List Wr) : ∀ (o : List Rs) (m : AlM), (m.map (·.1)).Nodup → ((o.foldl (tickR wy) m).map (·.1)).Nodup
  | [], _, h => h
  | r :: o, m, h => tickF_nodup wy o _ (tickS_nodup r.an (wy r) (m, []) h)
theorem tickF_len (wy : Rs → List Wr) (N : Nat) (hN : ∀ r, (wy r).length ≤ N) : ∀ (o : List Rs) (m : AlM), (o.foldl (tickR wy) m).length ≤ m.length + o.length * N
  | [], m => by simp
  | r :: o, m => by
    rw [List.foldl_cons, List.length_cons]
    refine Nat.le_trans (tickF_len wy N hN o _) ?_
    have h1 := tickS_len r.an (wy r) (m, [])
    have h2 := hN r
    have h3 : (tickR wy m r).length ≤ m.length + (wy r).length := h1
    rw [Nat.succ_mul]
    omega
theorem tickF_look (wy : Rs → List Wr) (w : Wr) : ∀ (o : List Rs) (m : AlM),
    (look1 (o.foldl (tickR wy) m) w).getD (0, 0) = (((look1 m w).getD (0, 0)).1 + (o.filter fun r => decide (w ∈ wy r)).length, ((look1 m w).getD (0, 0)).2 + (o.filter fun r => decide (w ∈ wy r) && (r.an == false)).length)
  | [], m => by simp
  | r :: o, m => by
    rw [List.foldl_cons, tickF_look wy w o, tickR_look]
    by_cases h : w ∈ wy r
    · rw [if_pos h, List.filter_cons_of_pos (by simpa using h)]
      cases ha : r.an with
      | true =>
        rw [List.filter_cons_of_neg (by simp [ha])]
        refine Prod.ext ?_ ?_
        · show _ + 1 + _ = _ + ((_ + 1 : Nat) : Int); omega
        · rfl
      | false =>
        rw [List.filter_cons_of_pos (by simp [h, ha])]
        refine Prod.ext ?_ ?_
        · show _ + 1 + _ = _ + ((_ + 1 : Nat) : Int); omega
        · show _ + 1 + _ = _ + ((_ + 1 : Nat) : Int); omega
    · rw [if_neg h, List.filter_cons_of_neg (by simpa using h), List.filter_cons_of_neg (by simp [h])]
theorem tickF_some (wy : Rs → List Wr) (w : Wr) : ∀ (o : List Rs) (m : AlM), (look1 (o.foldl (tickR wy) m) w).isSome = true ↔ (look1 m w).isSome = true ∨ ∃ r ∈ o, w ∈ wy r
  | [], m => by simp
  | r :: o, m => by
    rw [List.foldl_cons, tickF_some wy w o, tickR_look]
    by_cases h : w ∈ wy r
    · rw [if_pos h]; exact ⟨fun _ => .inr ⟨r, List.mem_cons_self .., h⟩, fun _ => .inl rfl⟩
    · rw [if_neg h]
      constructor
      · rintro (h1 | ⟨x, hx, h1⟩)
        · exact .inl h1
        · exact .inr ⟨x, List.mem_cons_of_mem _ hx, h1⟩
      · rintro (h1 | ⟨x, hx, h1⟩)
        · exact .inl h1
        · rcases List.mem_cons.1 hx with rfl | hx
          · exact absurd h1 h
          · exact .inr ⟨x, hx, h1⟩
theorem tick_bound (wy : Rs → List Wr) (w : Wr) (o : List Rs) : 0 ≤ ((look1 (tickF wy o) w).getD (0, 0)).2 ∧ ((look1 (tickF wy o) w).getD (0, 0)).2 ≤ ((look1 (tickF wy o) w).getD (0, 0)).1 ∧ ((look1 (tickF wy o) w).getD (0, 0)).1 ≤ o.length := by
  unfold tickF; rw [tickF_look]; have h1 := List.length_filter_le (fun r => decide (w ∈ wy r)) o
  have h2 : (o.filter fun r => decide (w ∈ wy r) && (r.an == false)).length ≤ (o.filter fun r => decide (w ∈ wy r)).length := by
    rw [← List.countP_eq_length_filter, ← List.countP_eq_length_filter]
    refine List.countP_mono_left fun r _ hp => ?_
    rw [Bool.and_eq_true] at hp; exact hp.1
  have e : ∀ w : Wr, (look1 ([] : AlM) w).getD (0, 0) = (0, 0) := fun _ => rfl
  rw [e]; dsimp only; omega
def cnOf (m : AlM) (n : Int) (w : Wr) : Cn := ⟨w, ((look1 m w).getD (0, 0)).1, max 0 (((look1 m w).getD (0, 0)).2 - n), ((look1 m w).getD (0, 0)).2⟩
def alO (l : List Rs) (n : Int) : List Cn × Int :=
  if n < 0 ∨ 1048576 < n then ([], 1) else if ¬ chkF l = 0 then ([], chkF l)
  else ((sd cmpW ((tickF (wayF l) (sd cmpR (l.filter okR))).map (·.1))).map (cnOf (tickF (wayF l) (sd cmpR (l.filter okR))) n), 0)
theorem cn_len (x : Cn) : (cnCs x).length = 5 := rfl
abbrev cnsC (l : List Cn) : CT := .fr (sliceT 5 (l.map cnCs))
def cns (l : List Cn) : List CT := (l.map cnCs).flatten
theorem cns_frozen (e : Nat) (l : List Cn) : (Ent.row e 5 (cns l)).frozen (sliceT 5 (l.map cnCs)) :=
  ⟨_, rfl, fun e he => by obtain ⟨m, _, rfl⟩ := List.mem_map.mp he; rfl, by decide, rfl⟩
theorem cns_at {l : List Cn} {j : Int} (h0 : 0 ≤ j) (h : j < (l.length : Int)) : (l.map cnCs)[j.toNat]? = some (cnCs (l.getD j.toNat cn0)) := by
  have : j.toNat < l.length := by omega
  simp [List.getElem?_map, List.getElem?_eq_getElem this, List.getD_eq_getElem?_getD]
theorem cns_len (l : List Cn) : (cns l).length = l.length * 5 := el_len cn_len l
theorem cns_snoc (l : List Cn) (r : Cn) : cns (l ++ [r]) = cns l ++ cnCs r := by simp [cns]
theorem sCns : SlcT Tryz.prog 48 39 5 32 (.agg #[.int .u32 0, .int .u32 0, .int .i64 0, .int .i64 0, .int .i64 0]) := SlcT.of Tryz.underlying48 (by kernel_rfl) rfl (by decide)
theorem uMAll : Tryz.prog.underlying 96 = some (.map 37 81) := Tryz.underlying96
theorem uMCr : Tryz.prog.underlying 98 = some (.map 37 4) := Tryz.underlying98
theorem z0Cs (w : World) : (zeroValue 81).run Tryz.prog w = .ok (.agg #[.int .i64 0, .int .i64 0]) w := Xs (by kernel_rfl) w
theorem z0Bool (w : World) : (zeroValue 4).run Tryz.prog w = .ok (.bool false) w := Xs (by kernel_rfl) w
theorem csZ (S : BSet) (w : World) : (csC ((0, 0) : Int × Int)).p S w (.agg #[.int .i64 0, .int .i64 0]) := ⟨[.int .i64 0, .int .i64 0], rfl, rfl, rfl, trivial⟩
abbrev alKv (m : AlM) : List (Value × CT) := kvs wrE csC m
abbrev crKv (m : CrM) : List (Value × CT) := kvs wrE boolC m
end Go.Proofs.YtlkdkbdgnjcopaaGreat
namespace Go.Own
open Go.RowKit
variable {X : Ctx} {L : AL} {B : BL}
theorem Ops.nilRow {ops : Array Oper} {K : Act → World → Prop} {l : Pl} (dd i : Nat) (e n : Nat) (hd : look L dd = some (.ct (.ex (.slice none 0 0)))) (hN : noN i L = true) (hB : bget B i = none) (h : Ops X ops l ((dd, .own i) :: L) ((i, .row e n []) :: B) K) : Ops X ops l L B K := Fin.nilRow dd i e n hd hN hB h
theorem addW (x y : Int) : IBin .add .i64 x .i64 y (.int .i64 (IntKind.i64.wrap (x + y))) := .of fun _ _ _ => rfl
end Go.Own
namespace Go.Proofs.YtlkdkbdgnjcopaaGreat
open Go.Own
attribute [local irreducible] St Ops Go.Own.Fin Ok OkB OkN OkT OkL OkF wpR
instance : Inhabited Nt := ⟨⟨0, 0, 0, [], 0⟩⟩
abbrev nt0 : Nt := ⟨0, 0, 0, [], 0⟩
theorem nt_len (q : Nt) : (ntCs q).length = 5 := rfl
abbrev zNums : Value := .agg #[.int .i64 0, .int .i64 0, .int .i64 0, .int .i64 0, .int .i64 0, .int .i64 0, .int .i64 0, .int .i64 0, .int .i64 0, .int .i64 0, .int .i64 0, .int .i64 0, .int .i64 0, .int .i64 0, .int .i64 0, .int .i64 0]
theorem aNums : ArrT Tryz.prog 117 3 16 1 zNums := ⟨Tryz.underlying117, by kernel_rfl, by kernel_rfl⟩
theorem zvNums : (Tryz.prog.info? 117).map (·.zero) = some (some zNums) := by kernel_rfl
theorem rss_snocD (l : List Rs) (r : Rs) : rss (l ++ [r]) = rss l ++ rsCs r := by rw [rss_app]; simp [rss]
theorem nets_get {l : List Nt} (h : ∀ q ∈ l, NtIn q) {i : Nat} (hi : i < l.length) : NtIn (l.getD i nt0) := by
  rw [List.getD_eq_getElem?_getD, List.getElem?_eq_getElem hi]; exact h _ (List.getElem_mem hi)
theorem mem_getG {α : Type} {P : α → Prop} {xs : List α} {z : α} (h : ∀ y ∈ xs, P y) {i : Nat} (hi : i < xs.length) : P (xs.getD i z) := by
  rw [List.getD_eq_getElem?_getD, List.getElem?_eq_getElem hi]; exact h _ (List.getElem_mem hi)
theorem mem_setG {α : Type} {P : α → Prop} {xs : List α} {x : α} (h : ∀ y ∈ xs, P y) (hx : P x) (i : Nat) : ∀ y ∈ xs.set i x, P y := fun y hy => by
  rcases List.mem_or_eq_of_mem_set hy with h1 | h1
  · exact h y h1
  · rw [h1]; exact hx
structure RSt where
  k : Int
  ns : List Nt
  tm : Int
  id : Int
  nu : List Int
  out : List Rs
  p : Nat
structure ROk (most : Int) (s : RSt) : Prop where
  k0 : 0 ≤ s.k
  kl : s.out.length + s.k ≤ most
  n1 : 1 ≤ s.ns.length
  n2 : s.ns.length ≤ 2
  nt : ∀ q ∈ s.ns, NtIn q
  t0 : 0 ≤ s.tm
  t1 : s.tm + 100 * s.k ≤ 20000
  i0 : 0 ≤ s.id
  i1 : s.id + 10 * s.k ≤ 80000
  nl : s.nu.length = 16
  nb : ∀ x ∈ s.nu, 0 ≤ x ∧ x ≤ s.out.length
  ok : ∀ r ∈ s.out, okR r = true
  lt : ∀ r ∈ s.out, 0 ≤ r.va ∧ r.va < 2 ∧ r.nu < s.nu.getD r.va.toNat 0
  un : s.out.Pairwise fun a b => ¬ (a.va = b.va ∧ a.nu = b.nu)
theorem getD_set {α : Type} {l : List α} {i j : Nat} {x z : α} (h : i < l.length) : (l.set i x).getD j z = if i = j then x else l.getD j z := by
  rw [List.getD_eq_getElem?_getD, List.getD_eq_getElem?_getD, List.getElem?_set]; split
  · rfl
  · rfl
theorem numbers {out : List Rs} {nu : List Int} {va : Int} {r : Rs} (hl : nu.length = 16) (v0 : 0 ≤ va) (v1 : va < 2) (h1 : r.va = va) (h2 : r.nu = nu.getD va.toNat 0)
    (lt : ∀ r ∈ out, 0 ≤ r.va ∧ r.va < 2 ∧ r.nu < nu.getD r.va.toNat 0) (un : out.Pairwise fun a b => ¬ (a.va = b.va ∧ a.nu = b.nu)) :
    (∀ x ∈ out ++ [r], 0 ≤ x.va ∧ x.va < 2 ∧ x.nu < (nu.set va.toNat (nu.getD va.toNat 0 + 1)).getD x.va.toNat 0) ∧ (out ++ [r]).Pairwise fun a b => ¬ (a.va = b.va ∧ a.nu = b.nu) := by
  constructor
  · intro x hx; rw [getD_set (by omega)]; rcases List.mem_append.1 hx with hx | hx
    · obtain ⟨a, b, c⟩ := lt x hx; refine ⟨a, b, ?_⟩; by_cases e : va.toNat = x.va.toNat
      · rw [if_pos e, e]; omega
      · rw [if_neg e]; exact c
    · rw [List.mem_singleton] at hx; subst hx; rw [h1, if_pos J, h2]; exact ⟨v0, v1, by omega⟩
  · rw [List.pairwise_append]; refine ⟨un, List.pairwise_singleton _ _, fun a ha b hb h => ?_⟩; rw [List.mem_singleton] at hb; subst hb; obtain ⟨_, _, c⟩ := lt a ha; rw [h.1, h1, h.2, h2] at c; exact Int.lt_irrefl _ c
theorem wrap64_small {n : Int} (h1 : 0 ≤ n) (h2 : n < 4294967296) : IntKind.i64.wrap n = n := by
  simp [IntKind.wrap, IntKind.bits, IntKind.signed]; omega
theorem okR_of {r : Rs} (h1 : ¬ P1 r) (h2 : ¬ P2 r) (h3 : ¬ P3 r) (h4 : ¬ P4 r) (h5 : r.dst ≠ 0) (h6 : r.an = true → r.fr ≠ 0) : okR r = true := by
  have e : ckE r = 0 := by unfold ckE; rw [if_neg h1, if_neg h2, if_neg h3, if_neg h4]
  have hv : ∀ a : Ad, a ≠ 0 → a.val ≠ 0 := fun a h e => h (_root_.Fin.ext e)
  unfold okR; rw [decide_eq_true e, decide_eq_true (hv _ h5)]
  cases h : r.an with
  | false => rfl
  | true => rw [decide_eq_true (hv _ (h6 h))]; rfl
theorem okR_dead {va nu tm pr f tt bk : Int} {ds : Ad} (h1 : 0 ≤ va ∧ va ≤ 15) (h2 : 0 ≤ nu ∧ nu ≤ 999) (h3 : 0 ≤ tm ∧ tm ≤ bk ∧ bk ≤ 100000) (h4 : 0 ≤ f ∧ f ≤ 1023) (h5 : 1 ≤ tt ∧ tt ≤ 255) (hp : pr = 17 ∨ pr = 1 ∨ pr = 6) (hd : ds ≠ 0) :
    okR ⟨va, 0, nu, tm, ds, pr, f, tt, false, false, bk, 0, 0, 0, 0, 0, 0⟩ = true := by
  refine okR_of ?_ ?_ ?_ ?_ hd (fun h => by cases h)
  · unfold P1; dsimp only; omega
  · unfold P2; dsimp only; omega
  · rintro ⟨_, h | h⟩
    · cases h
    · exact h J
  · rintro ⟨h, _⟩; cases h
theorem okR_live {va nu tm pr f tt bk ki id : Int} {ds a : Ad} {db : Bool} (h1 : 0 ≤ va ∧ va ≤ 15) (h2 : 0 ≤ nu ∧ nu ≤ 999) (h3 : 0 ≤ tm ∧ tm ≤ bk ∧ bk ≤ 100000) (h4 : 0 ≤ f ∧ f ≤ 1023) (h5 : 1 ≤ tt ∧ tt ≤ 255) (hp : pr = 17 ∨ pr = 1 ∨ pr = 6) (hd : ds ≠ 0) (ha : a ≠ 0) (hk : 1 ≤ ki ∧ ki ≤ 5) (hi : 0 ≤ id ∧ id ≤ 65535) :
    okR ⟨va, 0, nu, tm, ds, pr, f, tt, true, db, bk, a, ki, 0, 60, id, 1⟩ = true := by
  refine okR_of ?_ ?_ ?_ ?_ hd (fun _ => ha)
  · unfold P1; dsimp only; omega
  · unfold P2; dsimp only; omega
  · rintro ⟨h, _⟩; cases h
  · rintro ⟨_, h⟩; dsimp only at h; omega
end Go.Proofs.YtlkdkbdgnjcopaaGreat
namespace Go.Proofs.YtlkdkbdgnjcopaaGreat
open Go.Own
attribute [local irreducible] St Ops Go.Own.Fin Ok OkB OkN OkT OkL OkF wpR
theorem goResults : InGo Tryz.prog 22 := InGo.of Tryz.func22 rfl (by decide)
set_option maxHeartbeats 16000000 in
theorem Results_ok (bs : List Int) (p : Nat) (most : Int) (st : Bool) (h0 : 0 ≤ most) (h1 : most ≤ 100) (hb : Bytes bs) : OkB Tryz.prog 22 78 (codes bs p) [intC most, boolC st] (fun q : List Rs × Nat => (q.1.length : Int) ≤ most ∧ (∀ r ∈ q.1, okR r = true) ∧ q.1.Pairwise fun a b => ¬ (a.va = b.va ∧ a.nu = b.nu)) (fun q => rssC q.1) (fun q => codes bs q.2) := by
  refine OkB.enter Tryz.func22 J _ Tryz.ntmps22 J ?_
  intro S w g; refine Qw (Qx fun K hK => ?_); refine Qv J J J (Qj (hK _ _ (Qz (Qw ?_)))); clear hK K; refine Qx (fun K hK => ?_); refine Qq J J J (Qe goScene (scene_ok bs p hb) J J J J J (fun q hq => ?_)); obtain ⟨n1, p1⟩ := q; dsimp only at hq ⊢; skip
  refine Ops.litE 1 (m := 1) (n := 5) (zv := zNet) (cs := nts [n1]) J J sNets (.agg (n := 5) J J J J .nil) (by decide) J J J ?_
  refine Qv J J J (Qj (hK _ _ (Qz (Qw (Qw ?_))))); clear hK K; refine Qx (fun K hK => ?_); refine Qq J J J (Qe goBool (BoolB_ok bs p1 3 (by decide) (by decide) hb) J J J J J (fun q _ => ?_)); obtain ⟨b1, p2⟩ := q; dsimp only; refine Qj (hK _ _ (Qz ?_)); clear hK K; refine Xo (α := List Nt × Nat) (fun x => 1 ≤ x.1.length ∧ x.1.length ≤ 2 ∧ ∀ q ∈ x.1, NtIn q) (fun _ => [(0, .own 0), (1, .ct (intC most)), (2, .ct (boolC st)), (7, .own 1)]) (fun x => [(1, .row 113 5 (nts x.1)), (0, .box 78 (codes bs x.2))]) (fun x hx => ?_) (fun KK hN => ?_); rotate_left
  · refine XZ J (fun _ => ?_) (fun _ => ?_)
    · refine Qx (fun K hK => ?_); refine Qq J J J (Qq J J J (Qe goScene (scene_ok bs p2 hb) J J J J J (fun q hq2 => ?_))); obtain ⟨n2, p3⟩ := q; dsimp only at hq2 ⊢
      refine X6 (n := 5) J J sNets J J (by decide) J ?_
      refine Qt 1 (nts [n1, n2]) J J J J sNets J J (by decide) (by decide) J J ?_
      refine Qv J J J (Qj (hK _ _ ?_)); clear hK K; exact Qr hN ([n1, n2], p3) ⟨by simp, by simp, by simp [hq, hq2]⟩ (by exact QX J ⟨rfl, rfl, rfl, rfl, trivial⟩)
    · refine Q1 ?_
      exact Qr hN ([n1], p2) ⟨by simp, by simp, by simp [hq]⟩ (by exact QX J ⟨rfl, rfl, rfl, rfl, trivial⟩)
  clear hq; obtain ⟨ns0, p3⟩ := x; obtain ⟨hn1, hn2, hnt⟩ := hx; dsimp only at hn1 hn2 hnt ⊢; refine Qw (Qx fun K hK => ?_); refine Qv J J J (Qj (hK _ _ (Qz (Qw ?_)))); clear hK K; refine Qx (fun K hK => ?_); refine Qq J J J (Ops.nilRow 8 2 35 17 J J J ?_); skip; refine Qe goNext (NextA_ok bs p3 50 (by decide) (by decide) hb) J J J J J (fun q hq => ?_); obtain ⟨at0, p4⟩ := q; dsimp only at hq ⊢; refine Qq J J J (Qe goNext (NextA_ok bs p4 700 (by decide) (by decide) hb) J J J J J (fun q hq2 => ?_)); obtain ⟨id0, p5⟩ := q; dsimp only at hq2 ⊢
  refine Qk (imul (by omega) (by omega)) J J J J ?_
  refine Qv J J J (Qv J J J (Qj (hK _ _ (Qz (Qw ?_))))); clear hK K; refine Qx (fun K hK => ?_); refine Qg 3 J J zvNums J J J (Qj (hK _ _ (Qz (Qw (Qw ?_))))); clear hK K; refine Qx (fun K hK => ?_); refine Qq J J J (Qq J J J (Qk (iadd (by omega) (by omega)) J J J J ?_)); refine Qe goNext (NextA_ok bs p5 (most + 1) (by omega) (by omega) hb) J J J J J (fun q hq3 => ?_); obtain ⟨k0, p6⟩ := q; dsimp only at hq3 ⊢; refine Qv J J J (Qj (hK _ _ (Qz (Q5 ?_)))); clear hK K
  refine Xx (α := RSt) (ROk most)
    (fun x => [(0, .own 0), (1, .ct (intC most)), (2, .ct (boolC st)), (7, .own 1), (8, .own 2), (9, .ct (intC x.tm)), (10, .ct (intC x.id)), (11, .own 3), (12, .ct (intC x.k))])
    (fun x => [(3, .box 117 (ints x.nu)), (2, .row 35 17 (rss x.out)), (1, .row 113 5 (nts x.ns)), (0, .box 78 (codes bs x.p))])
    (fun x => x.k.toNat) ⟨k0, ns0, at0, 100 * id0, List.replicate 16 0, [], p6⟩ ⟨hq3.1, by simp; omega, hn1, hn2, hnt, hq.1, by dsimp only; omega, by dsimp only; omega, by dsimp only; omega, rfl, by simp, by simp, by simp, List.Pairwise.nil⟩ (by exact QX J ⟨rfl, rfl, rfl, rfl, rfl, rfl, rfl, rfl, rfl, trivial⟩) ?_
  rintro ⟨k, ns, tm, id, nu, out, q0⟩ ⟨hk0, hkl, hn1, hn2, hnt, ht0, ht1, hi0, hi1, hnl, hnb, hok, hlt9, hun⟩
  dsimp only at hk0 hkl hn1 hn2 hnt ht0 ht1 hi0 hi1 hnl hnb hok hlt9 hun ⊢; refine Qw (Qw (Qx fun K hK => ?_)); refine Qq J J J (Qk igtr J J J J (Qj (hK _ _ (Qz ?_)))); clear hK K; refine Q2 J (fun hk => ?_) (fun hk => ?_)
  · refine Q1 (Qz (Qw (Q5 (Qw (Qx fun K hK => ?_))))); refine Qq J J J (Qq J J J (ZZ _ J J J (by decide) (nts_len _) sNets.und J ?_)); refine Qe goNext (NextA_ok bs q0 ns.length (by omega) (by omega) hb) J J J J J (fun q hq4 => ?_); obtain ⟨i, q1⟩ := q; dsimp only at hq4 ⊢; refine Qv J J J (Qj (hK _ _ ?_)); clear hK K; refine Qz (Qw ?_)
    refine Xo (α := List Nt × Nat) (fun x => x.1.length = ns.length ∧ ∀ q ∈ x.1, NtIn q)
      (fun x => [(0, .own 0), (1, .ct (intC most)), (2, .ct (boolC st)), (7, .own 1), (8, .own 2), (9, .ct (intC tm)), (10, .ct (intC id)), (11, .own 3), (12, .ct (intC k)), (13, .ct (intC i))])
      (fun x => [(3, .box 117 (ints nu)), (2, .row 35 17 (rss out)), (1, .row 113 5 (nts x.1)), (0, .box 78 (codes bs x.2))]) (fun x hx => ?_) (fun KK hN => ?_)
    rotate_left
    · have hu : Tryz.prog.underlying 113 = _ := Tryz.underlying113; refine Qw (Qx fun K hK => ?_); refine Qq J J J (Qm J J J (Qq J J J (X3 48 (b := !st) J (fun hs => ?_) (fun hs => ?_))))
      · refine Qq J J J (Qe goBool (BoolB_ok bs q1 12 (by decide) (by decide) hb) J J J J J (fun q _ => ?_)); obtain ⟨b2, q2⟩ := q; dsimp only; refine QJ J J J J (Qj (hK _ _ (Qz ?_))); clear hK K; refine XZ J (fun _ => ?_) (fun _ => ?_)
        · refine Qx (fun K hK => ?_); refine Qq J J J (Qq J J J (Qq J J J (Qe goScene (scene_ok bs q2 hb) J J J J J (fun q hq5 => ?_)))); obtain ⟨n2, q3⟩ := q; dsimp only at hq5 ⊢; refine Ops.fldV (off := 3) (cs := ntCs n2) (c := pthsC n2.ps) J J hu J J Tryz.underlying111 J J J (Xu ns.length J J J (nts_len ns) J sNets (by omega) (by omega) J ?_); refine XK J J fH1 J (stE1 (j := i.toNat) (o := 3) (n := 5) ntCs nt0 ⟨(ns.getD i.toNat nt0).va, (ns.getD i.toNat nt0).ds, (ns.getD i.toNat nt0).pr, n2.ps, (ns.getD i.toNat nt0).la⟩ nt_len J J J J J (by omega) (by decide) J zPths ?_); refine Qj (hK _ _ ?_); clear hK K; have hi9 : NtIn (ns.getD i.toNat nt0) := nets_get hnt (by omega); exact Qr hN (ns.set i.toNat ⟨(ns.getD i.toNat nt0).va, (ns.getD i.toNat nt0).ds, (ns.getD i.toNat nt0).pr, n2.ps, (ns.getD i.toNat nt0).la⟩, q3) ⟨by simp, by refine mem_setG hnt ?_ _; exact ⟨hi9.v0, hi9.v1, hi9.d0, hi9.p0, hi9.a0, hq5.l0, hq5.l1, hq5.pl⟩⟩ (by exact QX J ⟨rfl, rfl, rfl, rfl, rfl, rfl, rfl, rfl, rfl, rfl, trivial⟩)
        · refine Q1 ?_
          exact Qr hN (ns, q2) ⟨rfl, hnt⟩ (by exact QX J ⟨rfl, rfl, rfl, rfl, rfl, rfl, rfl, rfl, rfl, rfl, trivial⟩)
      · refine Qy J J J (Qy J J J (QK J J J J (Qj (hK _ _ (Qz (Xv J (Q1 ?_))))))); clear hK K; exact Qr hN (ns, q1) ⟨rfl, hnt⟩ (by exact QX J ⟨rfl, rfl, rfl, rfl, rfl, rfl, rfl, rfl, rfl, rfl, trivial⟩)
    obtain ⟨ns', q2⟩ := x; obtain ⟨hnl', hnt'⟩ := hx; dsimp only at hnl' hnt' ⊢; refine Qw (Qx fun K hK => ?_); refine Qq J J J (Qq J J J (Xu ns'.length J J J (nts_len ns') J sNets (by omega) (by omega) J ?_))
    refine ldE ntCs nt0 nt_len J J J J J (by omega) lNet J ?_
    have hn9 : NtIn (ns'.getD i.toNat nt0) := nets_get hnt' (by omega); generalize ns'.getD i.toNat nt0 = n9 at hn9; obtain ⟨va, ds, pr, ps, la⟩ := n9; obtain ⟨v0, v1, d0, p0, a0, l0, l1, pl⟩ := hn9; dsimp only at v0 v1 d0 p0 a0 l0 l1 pl ⊢; have hnv : 0 ≤ nu.getD va.toNat 0 ∧ nu.getD va.toNat 0 ≤ out.length := mem_getG hnb (by omega); refine Qg 4 J J zvNet J J J (Qa 5 J J J J J szNet J J (Qj (hK _ _ (Qz (Qw ?_))))); clear hK K; refine Qx (fun K hK => ?_); refine Qq J J J (QV J J J fH1 J (QY J J J J J lPths J (Qb J J sPths.und (List.length_map ..) J (Qe goNext (NextA_ok bs q2 ps.length (by omega) (by omega) hb) J J J J J (fun q hq5 => ?_))))); obtain ⟨f, q3⟩ := q; dsimp only at hq5 ⊢; refine Qv J J J (Qj (hK _ _ (Qz (Qw ?_)))); clear hK K; refine Qx (fun K hK => ?_); refine QV J J J fH1 J (QY J J J J J lPths J (Qq J J J (Qh J J J sPths (by omega) (pths_at (ps := ps) (j := f) (by omega) (by omega)) J ?_)))
    refine XQ J J J lAdrs J ?_
    have hp9 : 1 ≤ (ps.getD f.toNat []).length ∧ (ps.getD f.toNat []).length ≤ 3 := mem_getG pl (by omega); generalize ps.getD f.toNat [] = pp at hp9; refine Qv J J J (Qj (hK _ _ (Qz (Qw ?_)))); clear hK K; refine Qx (fun K hK => ?_); refine Qq J J J (Qq J J J (Qe goNext (NextA_ok bs q3 40 (by decide) (by decide) hb) J J J J J (fun q hq6 => ?_))); obtain ⟨dt, q4⟩ := q; dsimp only at hq6 ⊢
    refine Qk (iadd (by omega) (by omega)) J J J J ?_
    refine Qk (iadd (by omega) (by omega)) J J J J ?_
    refine Qv J J J (Qj (hK _ _ (Qz (Qw ?_)))); clear hK K
    refine Xo (α := Int × Nat) (fun x => 0 ≤ x.1 ∧ x.1 ≤ pp.length) (fun _ => [(0, .own 0), (1, .ct (intC most)), (2, .ct (boolC st)), (7, .own 1), (8, .own 2), (9, .ct (intC (tm + (1 + dt)))), (10, .ct (intC id)), (11, .own 3), (12, .ct (intC k)), (14, .own 4), (16, .ct (adrsC pp)), (17, .own 5)])
      (fun x => [(5, .box 35 [intC va, intC 0, intC (nu.getD va.toNat 0), intC (tm + (1 + dt)), adrF ds, intC pr, intC f, intC (1 + x.1), boolC false, boolC false, intC 0, adrF 0, intC 0, intC 0, intC 0, intC 0, intC 0]), (4, .box 113 [intC va, adrF ds, intC pr, pthsC ps, adrF la]), (3, .box 117 (ints nu)), (2, .row 35 17 (rss out)), (1, .row 113 5 (nts ns')), (0, .box 78 (codes bs x.2))]) (fun x hx => ?_) (fun KK hN => ?_)
    rotate_left
    · refine St.drawR mixed 24 (.p 0 (.p 1 (.p 3 (.p 4 (.p 8 (.p 9 (.p 10 (.p 12 (.p 13 (.p 15 (.p 16 (.p 17 (.p 18 (.p 19 (.f 2 (.f 5 (.p 6 (.f 7 (.f 11 (.f 14 (.fork 20 (.p 21 (.p 22 (.m 23 (.a 24 .done)))) 23 (.m 20 (.p 21 (.p 22 (.a 24 .done))))))))))))))))))))))))) (by kernel_rfl) (fun K hK => ?_); refine Xb (QV J J J fH0 J (Qj (Xb (XK J J fR0t J (Qj (Xb (QV J J J fH0 J (Qj (Xb (XK J J fR0t J (Qj (Xb (Qq J J J (Qj (Xb (QV J J J fH0 J (Qj (Xb (XK J J fR1t J (Qj (Xb (QV J J J fH0 J (Qj (Xb (XK J J fR2t J (Qj (Xb (Qq J J J (Qj (Xb (Qq J J J (Qj (Xb (Qq J J J (Qj (Xb (Qb J J sAdrs.und (List.length_map ..) J (Qj (Xb (Qk (iadd (by omega) (by omega)) J J J J ?_)))))))))))))))))))))))))))))))))))))))); refine Qj (Fin.rfA J J J J J lInt (Z3 J) J (Fin.rfA J J J J J lInt (Z3 J) J (Xb (Y2 (j := va) J J J J aNums (by omega) (by omega) J ?_)))); refine Qj (Fin.rfA (c := intC (nu.getD va.toNat 0)) J J J J (by rw [Nat.mul_one]; exact Zd (by omega)) lInt (Z3 J) J ?_); refine Fin.rfA J J J J J lAddr (Z3 J) J (Fin.rfA J J J J J lInt (Z3 J) J (Fin.rfork ?_ ?_))
      · refine Fin.rmB J goNext (NextA_ok bs q4 (pp.length + 1) (by omega) (by omega) hb) J J J J J (fun y hy0 => ?_); obtain ⟨t, q5⟩ := y; dsimp only at hy0 ⊢; refine Xb (Qk (iadd (by omega) (by omega)) J J J J ?_); refine Qj (Xb (Qi J bRes J (.one J J J J (.one J J J J (.one J J J J (.one J J J J (.one J J J J (.one J J J J (.one J J J J (.one J J J J .nil)))))))) J (Qj (Fin.rm (Qg 5 J J zvRes J J J (Qj (Fin.ra (Qa 17 J J J J J Z4 J J (Qj (Fin.rdone ?_)))))))))); exact hK _ _ (Qr hN (t, q5) ⟨hy0.1, by dsimp only; omega⟩ (by exact QX J ⟨rfl, rfl, rfl, rfl, rfl, rfl, rfl, rfl, rfl, rfl, rfl, rfl, trivial⟩))
      · refine Fin.rm (Qg 5 J J zvRes J J J (Qj (Fin.rmB J goNext (NextA_ok bs q4 (pp.length + 1) (by omega) (by omega) hb) J J J J J (fun y hy0 => ?_)))); obtain ⟨t, q5⟩ := y; dsimp only at hy0 ⊢; refine Xb (Qk (iadd (by omega) (by omega)) J J J J ?_); refine Qj (Xb (Qi J bRes J (.one J J J J (.one J J J J (.one J J J J (.one J J J J (.one J J J J (.one J J J J (.one J J J J (.one J J J J .nil)))))))) J (Qj (Fin.ra (Qa 17 J J J J J Z4 J J (Qj (Fin.rdone ?_))))))); exact hK _ _ (Qr hN (t, q5) ⟨hy0.1, by dsimp only; omega⟩ (by exact QX J ⟨rfl, rfl, rfl, rfl, rfl, rfl, rfl, rfl, rfl, rfl, rfl, rfl, trivial⟩))
    obtain ⟨t, q5⟩ := x; obtain ⟨ht0, ht1⟩ := hx; dsimp only at ht0 ht1 ⊢; refine Qw (Qx fun K hK => ?_); refine QV J J J fH0 J (XK J J fR0t J (QY J J J J J lInt J (Y2 (j := va) J J J J aNums (by omega) (by omega) J ?_)))
    refine QY J J J J (by rw [Nat.mul_one]; exact Zd (by omega)) lInt J ?_
    refine Qk (addW _ _) J J J J (Y2 (j := va) J J J J aNums (by omega) (by omega) J ?_)
    refine XY J J J J J zInt (by show va.toNat * 1 < (ints nu).length; rw [ints_length]; omega) ?_
    simp only [Ent.setc, Z8, Nat.mul_one]; refine Qj (hK _ _ (Qz (Qw ?_))); clear hK K; refine St.drawR mixed 10 (.p 0 (.p 2 (.p 6 (.f 1 (.f 3 (.p 4 (.p 5 (.m 7 (.p 8 (.p 9 (.a 10 .done))))))))))) (by kernel_rfl) (fun K hK => ?_); refine Xb (QV J J J fS3 J (Qj (Xb (QV J J J fS7 J (Qj (Xb (Qq J J J (Qj (Fin.rfA (c := intC (tm + (1 + dt))) J J J J J lInt (Z3 J) J (Fin.rfA (c := intC (1 + t)) J J J J J lInt (Z3 J) J (Xb (Qk (imul (by omega) (by omega)) J J J J ?_)))))))))))); refine Qj (Xb (Qk (iadd (by omega) (by omega)) J J J J ?_)); refine Qj (Fin.rmB J goNext (NextA_ok bs q5 4 (by decide) (by decide) hb) J J J J J (fun y hy0 => ?_)); obtain ⟨dd, q6⟩ := y; dsimp only at hy0 ⊢; refine Xb (Qk (iadd (by omega) (by omega)) J J J J ?_); refine Qj (Xb (QV J J J fS10 J (Qj (Fin.ra (XY J J J J J zInt (Nat.le_of_ble_eq_true J) (Qj (Fin.rdone (hK _ _ ?_)))))))); clear hK K; generalize hbk : tm + (1 + dt) + 5 * (1 + t) + dd = bk; generalize hnu : nu.set va.toNat (IntKind.i64.wrap (nu.getD va.toNat 0 + 1)) = nu2
    have hnl2 : nu2.length = 16 := by rw [← hnu, List.length_set]; exact hnl
    have hnb2 : ∀ x ∈ nu2, 0 ≤ x ∧ x ≤ ((out.length + 1 : Nat) : Int) := by
      rw [← hnu, wrap64_small (by omega) (by omega)]; exact mem_setG (fun y hy => by have := hnb y hy; omega) (by omega) _
    have hnum := fun (r : Rs) (a : r.va = va) (b : r.nu = nu.getD va.toNat 0) => numbers (r := r) hnl v0 v1 a b hlt9 hun
    rw [wrap64_small (by omega) (by omega)] at hnu; rw [hnu] at hnum; clear hnu; refine Qz (Qw (Qx fun K hK => ?_)); refine Qq J J J (Qq J J J (Qe goNext (NextA_ok bs q6 5 (by decide) (by decide) hb) J J J J J (fun q hq7 => ?_))); obtain ⟨di, q7⟩ := q; dsimp only at hq7 ⊢
    refine Qk (iadd (by omega) (by omega)) J J J J ?_
    refine Qk (iadd (by omega) (by omega)) J J J J ?_
    refine Qv J J J (Qj (hK _ _ (Qz (Qw ?_)))); clear hK K; refine Qx (fun K hK => ?_); refine QV J J J fH2 J (QY J J J J J lAddr J (Qv J J J (Qj (hK _ _ (Qz (Qw (Qw ?_))))))); clear hK K; refine Qx (fun K hK => ?_); refine QV J J J fS7 J (QY J J J J J lInt J (Qq J J J (Qb J J sAdrs.und (List.length_map ..) J (Qk ileq J J J J (Qj (hK _ _ (Qz ?_))))))); clear hK K
    refine Xo (α := Ad) (fun _ => True) (fun a => [(0, .own 0), (1, .ct (intC most)), (2, .ct (boolC st)), (7, .own 1), (8, .own 2), (10, .ct (intC (id + (1 + di)))), (11, .own 3), (12, .ct (intC k)), (17, .own 5), (16, .ct (adrsC pp)), (18, .ct (adrF a))])
      (fun _ => [(5, .box 35 [intC va, intC 0, intC (nu.getD va.toNat 0), intC (tm + (1 + dt)), adrF ds, intC pr, intC f, intC (1 + t), boolC false, boolC false, intC bk, adrF 0, intC 0, intC 0, intC 0, intC 0, intC 0]), (4, .box 113 [intC va, adrF ds, intC pr, pthsC ps, adrF la]), (3, .box 117 (ints nu2)), (2, .row 35 17 (rss out)), (1, .row 113 5 (nts ns')), (0, .box 78 (codes bs q7))]) (fun a _ => ?_) (fun KK hN => ?_)
    rotate_left
    · refine Q2 J (fun h7 => ?_) (fun h7 => ?_)
      · refine Qx (fun K hK => ?_); refine Qq J J J (QV J J J fS7 J (QY J J J J J lInt J (Qk (isub (by omega) (by omega)) J J J J ?_)))
        refine Qh J J J sAdrs (by omega) (adrs_at (by omega) (by omega)) J ?_
        refine XQ J J J lAddr J (Qv J J J (Qj (hK _ _ ?_))); clear hK K; exact Qr hN _ trivial (by exact QX J ⟨rfl, rfl, rfl, rfl, rfl, rfl, rfl, rfl, rfl, rfl, rfl, trivial⟩)
      · refine Q1 ?_
        exact Qr hN la trivial (by exact QX J ⟨rfl, rfl, rfl, rfl, rfl, rfl, rfl, rfl, rfl, rfl, rfl, trivial⟩)
    refine Qw ?_
    refine Xo (α := Rs × Nat) (fun x => x.1.bk = bk ∧ okR x.1 = true ∧ x.1.va = va ∧ x.1.nu = nu.getD va.toNat 0) (fun _ => [(0, .own 0), (1, .ct (intC most)), (2, .ct (boolC st)), (7, .own 1), (8, .own 2), (10, .ct (intC (id + (1 + di)))), (11, .own 3), (12, .ct (intC k)), (17, .own 5)])
      (fun x => [(5, .box 35 (rsCs x.1)), (4, .box 113 [intC va, adrF ds, intC pr, pthsC ps, adrF la]), (3, .box 117 (ints nu2)), (2, .row 35 17 (rss out)), (1, .row 113 5 (nts ns')), (0, .box 78 (codes bs x.2))]) (fun x hx => ?_) (fun KK hN => ?_)
    rotate_left
    · refine Qw (Qx fun K hK => ?_); refine Qq J J J (Qk ineq J J J J (Qq J J J (X3 138 J (fun h8 => ?_) (fun h8 => ?_))))
      · have ha : a ≠ 0 := fun h => of_decide_eq_true h8 (by rw [h]; rfl)
        refine Qq J J J (Qe goBool (BoolB_ok bs q7 5 (by decide) (by decide) hb) J J J J J (fun q _ => ?_)); obtain ⟨b3, q8⟩ := q; dsimp only; refine Qm J J J (QJ J J J J (Qj (hK _ _ (Qz ?_)))); clear hK K; refine XZ J (fun _ => ?_) (fun _ => ?_)
        · refine Qw (Qx fun K hK => ?_); refine Qq J J J (Qe goBool (BoolB_ok bs q8 30 (by decide) (by decide) hb) J J J J J (fun q _ => ?_)); obtain ⟨b4, q9⟩ := q; dsimp only; refine QV J J J fS8 J (XY J J J J J zBool1 (Nat.le_of_ble_eq_true J) (QV J J J fS9 J (XY J J J J J zBool1 (Nat.le_of_ble_eq_true J) (Qj (hK _ _ (Qz (Qw ?_))))))); clear hK K; refine Qx (fun K hK => ?_); refine Qq J J J (Qq J J J (Qk (irem (p := id + (1 + di)) (by omega) (by omega)) J J J J ?_))
          have hidr : 0 ≤ (id + (1 + di)) % 65536 ∧ (id + (1 + di)) % 65536 ≤ 65535 := by omega
          generalize (id + (1 + di)) % 65536 = idr at hidr ⊢; refine Qi J bAns J (.one J J J J (.one J J J J (.one J J J J (.one J J J J (.one J J J J .nil))))) J (QV J J J fS11 J (Ops.stNA J J J J J (by exact szAns) (Nat.le_of_ble_eq_true J) ?_)); refine Qj (hK _ _ ?_); clear hK K; refine Qz (Qw ?_)
          refine Xo (α := Int × Nat) (fun x => 1 ≤ x.1 ∧ x.1 ≤ 5) (fun _ => [(0, .own 0), (1, .ct (intC most)), (2, .ct (boolC st)), (7, .own 1), (8, .own 2), (10, .ct (intC (id + (1 + di)))), (11, .own 3), (12, .ct (intC k)), (17, .own 5), (16, .ct (adrsC pp))])
            (fun x => [(5, .box 35 [intC va, intC 0, intC (nu.getD va.toNat 0), intC (tm + (1 + dt)), adrF ds, intC pr, intC f, intC (1 + t), boolC true, boolC b4, intC bk, adrF a, intC x.1, intC 0, intC 60, intC idr, intC 1]), (4, .box 113 [intC va, adrF ds, intC pr, pthsC ps, adrF la]), (3, .box 117 (ints nu2)), (2, .row 35 17 (rss out)), (1, .row 113 5 (nts ns')), (0, .box 78 (codes bs x.2))]) (fun x hki => ?_) (fun KK2 hN2 => ?_)
          rotate_left
          · refine Qw (Qx fun K hK => ?_); refine QV J J J fS7 J (QY J J J J J lInt J (Qq J J J (Qb J J sAdrs.und (List.length_map ..) J (Qk igtr J J J J (Qj (hK _ _ (Qz ?_))))))); clear hK K; refine Q2 J (fun h9 => ?_) (fun h9 => ?_)
            · refine Qx (fun K hK => ?_); refine Qq J J J (YV [3, 3, 2] rfl rfl sInts J ⟨rfl, rfl, rfl, rfl, rfl, rfl, trivial⟩ (by decide) J ?_); refine Qe goPick (Pick_ok bs q9 [3, 3, 2] (by decide) (by decide) hb) J J J J J (fun q hq8 => ?_); obtain ⟨ki, q10⟩ := q
              have hki : 1 ≤ ki ∧ ki ≤ 5 := by simp only [List.mem_cons, List.not_mem_nil, or_false] at hq8; omega
              dsimp only; refine QV J J J fS11 J (XK J J fN1 J (XY J J J J J zInt (Nat.le_of_ble_eq_true J) (Qj (hK _ _ ?_)))); clear hK K; exact Qr hN2 (ki, q10) hki (by exact QX J ⟨rfl, rfl, rfl, rfl, rfl, rfl, rfl, rfl, rfl, rfl, trivial⟩)
            · refine Q1 ?_
              exact Qr hN2 (1, q9) ⟨Int.le_refl _, by show (1 : Int) ≤ 5; decide⟩ (by exact QX J ⟨rfl, rfl, rfl, rfl, rfl, rfl, rfl, rfl, rfl, rfl, trivial⟩)
          obtain ⟨ki, q10⟩ := x; dsimp only at hki ⊢; refine Qw (Qx fun K hK => ?_); refine Qq J J J (Qe goBool (BoolB_ok bs q10 5 (by decide) (by decide) hb) J J J J J (fun q _ => ?_)); obtain ⟨b5, q11⟩ := q; dsimp only; refine Qj (hK _ _ (Qz ?_)); clear hK K; refine XZ J (fun _ => ?_) (fun _ => ?_)
          · refine Qx (fun K hK => ?_); refine Qq J J J (Qe goNext (NextA_ok bs q11 65536 (by decide) (by decide) hb) J J J J J (fun q hq9 => ?_)); obtain ⟨id2, q12⟩ := q; dsimp only at hq9 ⊢; refine QV J J J fS11 J (XK J J fN4 J (XY J J J J J zInt (Nat.le_of_ble_eq_true J) (Qj (hK _ _ ?_)))); clear hK K; exact Qr hN (⟨va, 0, nu.getD va.toNat 0, tm + (1 + dt), ds, pr, f, 1 + t, true, b4, bk, a, ki, 0, 60, id2, 1⟩, q12) ⟨rfl, okR_live ⟨v0, by omega⟩ ⟨hnv.1, by omega⟩ ⟨by omega, by omega, by omega⟩ ⟨by omega, by omega⟩ ⟨by omega, by omega⟩ p0 d0 ha hki ⟨hq9.1, by omega⟩, rfl, rfl⟩ (by exact QX J ⟨rfl, rfl, rfl, rfl, rfl, rfl, rfl, rfl, rfl, trivial⟩)
          · refine Q1 ?_
            exact Qr hN (⟨va, 0, nu.getD va.toNat 0, tm + (1 + dt), ds, pr, f, 1 + t, true, b4, bk, a, ki, 0, 60, idr, 1⟩, q11) ⟨rfl, okR_live ⟨v0, by omega⟩ ⟨hnv.1, by omega⟩ ⟨by omega, by omega, by omega⟩ ⟨by omega, by omega⟩ ⟨by omega, by omega⟩ p0 d0 ha hki hidr, rfl, rfl⟩ (by exact QX J ⟨rfl, rfl, rfl, rfl, rfl, rfl, rfl, rfl, rfl, trivial⟩)
        · refine Q1 ?_
          exact Qr hN (⟨va, 0, nu.getD va.toNat 0, tm + (1 + dt), ds, pr, f, 1 + t, false, false, bk, 0, 0, 0, 0, 0, 0⟩, q8) ⟨rfl, okR_dead ⟨v0, by omega⟩ ⟨hnv.1, by omega⟩ ⟨by omega, by omega, by omega⟩ ⟨by omega, by omega⟩ ⟨by omega, by omega⟩ p0 d0, rfl, rfl⟩ (by exact QX J ⟨rfl, rfl, rfl, rfl, rfl, rfl, rfl, rfl, rfl, trivial⟩)
      · refine Qy J J J (Qy J J J (Qy J J J (QK J J J J (Qj (hK _ _ (Qz (Xv J (Q1 ?_)))))))); clear hK K; exact Qr hN (⟨va, 0, nu.getD va.toNat 0, tm + (1 + dt), ds, pr, f, 1 + t, false, false, bk, 0, 0, 0, 0, 0, 0⟩, q7) ⟨rfl, okR_dead ⟨v0, by omega⟩ ⟨hnv.1, by omega⟩ ⟨by omega, by omega, by omega⟩ ⟨by omega, by omega⟩ ⟨by omega, by omega⟩ p0 d0, rfl, rfl⟩ (by exact QX J ⟨rfl, rfl, rfl, rfl, rfl, rfl, rfl, rfl, rfl, trivial⟩)
    obtain ⟨r, q8⟩ := x; obtain ⟨hx, hrk, hva9, hnu9⟩ := hx; dsimp only at hx hrk hva9 hnu9 ⊢; obtain ⟨hn1', hn2'⟩ := hnum r hva9 hnu9; refine Qw (Qx fun K hK => ?_); refine QV J J J fS10 J (QY J J J J J lInt J (Qv J J J (Qj (hK _ _ (Qz ?_))))); clear hK K; refine Qx (fun K hK => ?_); refine Qq J J J (Q6 (n := 17) J J J J J lRes J (X6 (n := 17) J J sRes J J (by decide) J ?_))
    refine Qt out.length (rss (out ++ [r])) J J J J sRes (rss_len out) J (by omega) (by omega) (rss_snocD out r) J ?_
    refine Qv J J J (Qj (hK _ _ (Qz ?_))); clear hK K; refine Qx (fun K hK => ?_); refine Qq J J J (Qk (isub (by omega) (by omega)) J J J J ?_); refine Qv J J J (Qj (hK _ _ (Q4 ?_))); clear hK K; refine Ql 5 (Ql 4 (Q8 ⟨k - 1, ns', r.bk, id + (1 + di), nu2, out ++ [r], q8⟩ (by dsimp only; omega) ⟨by dsimp only; omega, by simp; omega, by dsimp only; omega, by dsimp only; omega, hnt', by dsimp only; omega, by dsimp only; omega, by dsimp only; omega, by dsimp only; omega, hnl2, by dsimp only; rw [List.length_append]; exact hnb2, mem_snocG hok hrk, hn1', hn2'⟩ (by exact QX J ⟨rfl, rfl, rfl, rfl, rfl, rfl, rfl, rfl, rfl, trivial⟩)))
  · refine St.frz 2 _ J (rss_frozen _ _) (Zs J) (Qs (Qz (Qw (Qx fun K hK => ?_)))); refine Qq J J J (Qv J J J (Qj (hK _ _ (Qz (Q0 ?_))))); clear hK K; refine Zv (out, q0) [_] rfl (Qu J QQ) J J ⟨by dsimp only; omega, hok, hun⟩
end Go.Proofs.YtlkdkbdgnjcopaaGreat
namespace Go.Proofs.YtlkdkbdgnjcopaaGreat
open Go.Own Go.Limbs
structure Dat (d : List (Int × Int)) : Prop where
  ok : ∀ p ∈ d, 1 ≤ p.1 ∧ p.1 ≤ 3 ∧ 0 ≤ p.2 ∧ p.2 ≤ p.1
  hs : ∀ t : Int, 1 ≤ t → t ≤ 3 → t ≤ d.length → (t, 0) ∈ d
def hereP (w : Int) (p : Int × Int) : Bool := decide (w ≤ p.1) && (decide (p.2 = 0) == false) && decide (p.2 = w)
def othP (w : Int) (p : Int × Int) : Bool := decide (w ≤ p.1) && (decide (p.2 = 0) == false) && !decide (p.2 = w)
def hereF (w : Int) (d : List (Int × Int)) : Nat := d.countP (hereP w)
def othF (w : Int) (d : List (Int × Int)) : Nat := d.countP (othP w)
theorem take_snoc {α : Type} {z : α} {l : List α} {i : Nat} (h : i < l.length) : l.take (i + 1) = l.take i ++ [l.getD i z] := by
  rw [List.take_add_one, List.getElem?_eq_getElem h]; simp [List.getD_eq_getElem?_getD, List.getElem?_eq_getElem h]
attribute [local irreducible] Go.Own.Fin Ok OkB OkF OkL OkM OkN OkT Ops St
theorem ones_rss : ∀ l : List Rs, ones (rss l) = true
  | [] => rfl
  | r :: l => by
    have := ones_rss l
    show ones (rsCs r ++ rss l) = true
    simp only [rsCs, List.cons_append, List.nil_append, ones, CT.one, Value.oneCell', Bool.true_and, this]
theorem goDConsistent : InGo Tryz.prog 16 := InGo.of Tryz.func16 rfl (by decide)
set_option maxHeartbeats 8000000 in
theorem DConsistent_ok (bs : List Int) (p : Nat) (most : Int) (h0 : 0 ≤ most) (h1 : most ≤ 100) (hb : Bytes bs) : OkB Tryz.prog 16 78 (codes bs p) [intC most] (fun q : List Rs × Nat => (q.1.length : Int) ≤ most ∧ pwB q.1 = true ∧ (∀ r ∈ q.1, okR r = true) ∧ q.1.Pairwise fun a b => ¬ (a.va = b.va ∧ a.nu = b.nu)) (fun q => rssC q.1) (fun q => codes bs q.2) := by
  refine OkB.enter Tryz.func16 J _ Tryz.ntmps16 J ?_
  intro S w g; refine Qw (Qx fun K hK => ?_); refine Qv J J J (Qj (hK _ _ (Qz (Qw ?_)))); clear hK K; refine Qx (fun K hK => ?_); refine Qq J J J (Qq J J J (Qe goResults (Results_ok bs p most true h0 h1 hb) J J J J J (fun q hq => ?_))); obtain ⟨x, p1⟩ := q; dsimp only at hq ⊢; obtain ⟨hq, hokR, hunR⟩ := hq; refine Qv J J J (Qj (hK _ _ (Qz (Qw ?_)))); clear hK K; refine Qx (fun K hK => ?_); refine Qv J J J (Qj (hK _ _ (Qz (Qw (Qw ?_))))); clear hK K; refine Qx (fun K hK => ?_); refine Qv J J J (Qj (hK _ _ (Qz (Q5 ?_)))); clear hK K
  refine Xg 6 2 35 17 J J J ?_
  refine Xx (α := Nat × List Rs) (fun q => q.1 ≤ x.length ∧ q.2.Sublist (x.take q.1) ∧ (q.2 ≠ [] → pwB q.2 = true))
    (fun q => [(0, .own 0), (5, .ct (rssC x)), (6, .own 2), (7, .ct (intC q.1))]) (fun q => [(2, .row 35 17 (rss q.2)), (0, .box 78 (codes bs p1))])
    (fun q => x.length - q.1) (0, []) ⟨Nat.zero_le _, List.nil_sublist _, fun h => absurd J h⟩ (by exact QX J ⟨rfl, rfl, rfl, rfl, trivial⟩) ?_
  intro ⟨i, out⟩ ⟨hi, hsub, hco⟩
  try dsimp only at hi hsub hco ⊢
  refine Qw (Qw (Qx fun K hK => ?_)); refine Qq J J J (Qq J J J (Qb J J sRes.und (List.length_map ..) J (Qk ilss J J J J (Qj (hK _ _ (Qz ?_)))))); clear hK K; refine Q2 J (fun h => ?_) (fun h => ?_)
  · have e2 : (i : Int).toNat = i := Int.toNat_natCast i; have hsn := take_snoc (z := rs0) (l := x) (i := i) (by omega); have hol := hsub.length_le; rw [List.length_take] at hol; generalize hc : x.getD i rs0 = c at hsn; refine Q1 (Qz (Qw (Q5 (Qw ?_)))); refine Yq mixed [1, 7] (.p 0 (.p 2 (.p 3 (.p 4 (.a 1 (.f 5 (.m 6 (.a 7 (.m 8 .done .non) .non) .non)) (.m 5 (.a 1 (.m 6 (.a 7 (.m 8 .done .non) .non) .non) (.m 6 (.a 1 (.a 7 (.m 8 .done .non) .non) .non) .non)) .non)))))) (by kernel_rfl) (fun K hK => ?_); refine Qo (Qq J J J (Qj (Qo (Qq J J J (Qj (Qo (Qq J J J (Qj (Qo (Qh J J J sRes (by omega) (Xd (by omega) (by omega)) J ?_)))))))))); rw [e2, hc]; refine Qj (Xk ?_ ?_)
    · refine Ops.appRow 5 out.length J J J J sRes (rss_len out) (ones_rss out) (by omega) (by omega) J J J ?_
      refine Qj (XU (XX (n := 17) J J J lRes J J (Qj (X1 ?_ Qf))))
      refine X6 (n := 17) J J sRes J J (by decide) J ?_
      refine Qj (Xk ?_ Qf)
      refine Qt out.length (rss (out ++ [c])) J J J J sRes (rss_len out) J (by omega) (by omega) (Z9 out c) J ?_
      refine Ops.frz 5 _ J (rss_frozen _ _) (Zs J) (Qj (X1 ?_ Qf))
      refine QW goConsistentR (Y6 (out ++ [c]) (by rw [List.length_append, List.length_singleton]; omega)) J J J J ?_
      refine Qj (Xy (hK _ _ ?_)); refine Qz (XZ J (fun h2 => ?_) (fun h2 => ?_))
      · refine Qx (fun K hK => ?_); refine Qq J J J (Qq J J J (Qq J J J (Qh J J J sRes (by omega) (Xd (by omega) (by omega)) J ?_))); rw [e2, hc]; refine XX (n := 17) J J J lRes J J (X6 (n := 17) J J sRes J J (by decide) J ?_)
        refine Qt out.length (rss (out ++ [c])) J J J J sRes (rss_len out) J (by omega) (by omega) (Z9 out c) J ?_
        refine Qv J J J (Qj (hK _ _ (Qz ?_))); clear hK K; refine Qx (fun K hK => ?_); refine Qq J J J (Qk (iadd (by omega) (by omega)) J J J J ?_); refine Qv J J J (Qj (hK _ _ (Q4 ?_))); clear hK K; refine Q8 (i + 1, out ++ [c]) (by dsimp only; omega) ⟨by dsimp only; omega, by rw [hsn]; exact hsub.append (List.Sublist.refl _), fun _ => h2⟩ (by exact QX J ⟨rfl, rfl, rfl, by simp only [Int.natCast_add]; rfl, trivial⟩)
      · refine Q1 (Qz (Qx fun K hK => ?_)); refine Qq J J J (Qk (iadd (by omega) (by omega)) J J J J ?_); refine Qv J J J (Qj (hK _ _ (Q4 ?_))); clear hK K; refine Q8 (i + 1, out) (by dsimp only; omega) ⟨by dsimp only; omega, by rw [hsn]; exact hsub.trans (List.sublist_append_left _ _), hco⟩ (by exact QX J ⟨rfl, rfl, rfl, by simp only [Int.natCast_add]; rfl, trivial⟩)
    refine X1 ?_ Qf
    refine XX (n := 17) J J J lRes J J (Qj (Xk ?_ ?_))
    · refine Ops.appRow 5 out.length J J J J sRes (rss_len out) (ones_rss out) (by omega) (by omega) J J J ?_
      refine Qj (X1 ?_ Qf)
      refine X6 (n := 17) J J sRes J J (by decide) J ?_
      refine Qj (Xk ?_ Qf)
      refine Qt out.length (rss (out ++ [c])) J J J J sRes (rss_len out) J (by omega) (by omega) (Z9 out c) J ?_
      refine Ops.frz 5 _ J (rss_frozen _ _) (Zs J) (Qj (X1 ?_ Qf))
      refine QW goConsistentR (Y6 (out ++ [c]) (by rw [List.length_append, List.length_singleton]; omega)) J J J J ?_
      refine Qj (Xy (hK _ _ ?_)); refine Qz (XZ J (fun h2 => ?_) (fun h2 => ?_))
      · refine Qx (fun K hK => ?_); refine Qq J J J (Qq J J J (Qq J J J (Qh J J J sRes (by omega) (Xd (by omega) (by omega)) J ?_))); rw [e2, hc]; refine XX (n := 17) J J J lRes J J (X6 (n := 17) J J sRes J J (by decide) J ?_)
        refine Qt out.length (rss (out ++ [c])) J J J J sRes (rss_len out) J (by omega) (by omega) (Z9 out c) J ?_
        refine Qv J J J (Qj (hK _ _ (Qz ?_))); clear hK K; refine Qx (fun K hK => ?_); refine Qq J J J (Qk (iadd (by omega) (by omega)) J J J J ?_); refine Qv J J J (Qj (hK _ _ (Q4 ?_))); clear hK K; refine Q8 (i + 1, out ++ [c]) (by dsimp only; omega) ⟨by dsimp only; omega, by rw [hsn]; exact hsub.append (List.Sublist.refl _), fun _ => h2⟩ (by exact QX J ⟨rfl, rfl, rfl, by simp only [Int.natCast_add]; rfl, trivial⟩)
      · refine Q1 (Qz (Qx fun K hK => ?_)); refine Qq J J J (Qk (iadd (by omega) (by omega)) J J J J ?_); refine Qv J J J (Qj (hK _ _ (Q4 ?_))); clear hK K; refine Q8 (i + 1, out) (by dsimp only; omega) ⟨by dsimp only; omega, by rw [hsn]; exact hsub.trans (List.sublist_append_left _ _), hco⟩ (by exact QX J ⟨rfl, rfl, rfl, by simp only [Int.natCast_add]; rfl, trivial⟩)
    refine X1 ?_ Qf
    refine X6 (n := 17) J J sRes J J (by decide) J ?_
    refine Qj (Xk ?_ Qf)
    refine Ops.appRow 5 out.length J J J J sRes (rss_len out) (ones_rss out) (by omega) (by omega) J J J ?_
    refine Qj (Xk ?_ Qf)
    refine Qt out.length (rss (out ++ [c])) J J J J sRes (rss_len out) J (by omega) (by omega) (Z9 out c) J ?_
    refine Ops.frz 5 _ J (rss_frozen _ _) (Zs J) (Qj (X1 ?_ Qf))
    refine QW goConsistentR (Y6 (out ++ [c]) (by rw [List.length_append, List.length_singleton]; omega)) J J J J ?_
    refine Qj (Xy (hK _ _ ?_)); refine Qz (XZ J (fun h2 => ?_) (fun h2 => ?_))
    · refine Qx (fun K hK => ?_); refine Qq J J J (Qq J J J (Qq J J J (Qh J J J sRes (by omega) (Xd (by omega) (by omega)) J ?_))); rw [e2, hc]; refine XX (n := 17) J J J lRes J J (X6 (n := 17) J J sRes J J (by decide) J ?_)
      refine Qt out.length (rss (out ++ [c])) J J J J sRes (rss_len out) J (by omega) (by omega) (Z9 out c) J ?_
      refine Qv J J J (Qj (hK _ _ (Qz ?_))); clear hK K; refine Qx (fun K hK => ?_); refine Qq J J J (Qk (iadd (by omega) (by omega)) J J J J ?_); refine Qv J J J (Qj (hK _ _ (Q4 ?_))); clear hK K; refine Q8 (i + 1, out ++ [c]) (by dsimp only; omega) ⟨by dsimp only; omega, by rw [hsn]; exact hsub.append (List.Sublist.refl _), fun _ => h2⟩ (by exact QX J ⟨rfl, rfl, rfl, by simp only [Int.natCast_add]; rfl, trivial⟩)
    · refine Q1 (Qz (Qx fun K hK => ?_)); refine Qq J J J (Qk (iadd (by omega) (by omega)) J J J J ?_); refine Qv J J J (Qj (hK _ _ (Q4 ?_))); clear hK K; refine Q8 (i + 1, out) (by dsimp only; omega) ⟨by dsimp only; omega, by rw [hsn]; exact hsub.trans (List.sublist_append_left _ _), hco⟩ (by exact QX J ⟨rfl, rfl, rfl, by simp only [Int.natCast_add]; rfl, trivial⟩)
  · have hi' : i = x.length := by omega
    have hol := hsub.length_le; rw [List.length_take] at hol; refine Qs (Qz (Qw (Qx fun K hK => ?_))); refine Qq J J J (Qv J J J (Qj (hK _ _ (Qz (Q0 ?_))))); clear hK K; refine Fin.frz 2 _ J (rss_frozen _ _) (Zs J) (Zv (out, p1) [_] rfl (Qu J QQ) J J ⟨by dsimp only; omega, ?_, fun r hr => hokR r (List.mem_of_mem_take (hsub.subset hr)), hunR.sublist (hsub.trans (List.take_sublist _ _))⟩); by_cases ho : out = []
    · subst ho; exact decide_eq_true fun k h => absurd h (Nat.not_lt_zero _)
    · exact hco ho
def posT (out : List Tk) (t : Tk) : Nat := (out.takeWhile fun x => decide (cmpT x t < 0)).length
def insT (out : List Tk) (t : Tk) : List Tk := if posT out t < out.length ∧ out.getD (posT out t) tk0 = t then out else out.take (posT out t) ++ t :: out.drop (posT out t)
def trR (out : List Tk) (l : List Rs) : List Tk := l.foldl (fun out r => if okR r = true then insT out (trOf r) else out) out
structure OneL (st : Bool) (most : Int) (l : List Rs) : Prop where
  len : (l.length : Int) ≤ most
  ok : ∀ r ∈ l, okR r = true
  tr : ∃ t, ∀ r ∈ l, trOf r = t
  up : Up cmpR l
  pw : st = true → pwB l = true
end Go.Proofs.YtlkdkbdgnjcopaaGreat
namespace Go.Proofs.YtlkdkbdgnjcopaaGreat
open Go.Own
theorem sNat : SlcT Tryz.prog 51 3 1 8 (.int .i64 0) := SlcT.of Tryz.underlying51 (by kernel_rfl) rfl (by decide)
theorem lNat : Ld1 Tryz.prog 51 := Ld1.of _ Tryz.underlying51 rfl
attribute [local irreducible] Go.Own.Fin Ok Ops St
theorem at_ok (xs : List Int) (i : Int) (hi : 0 ≤ i) : Ok Tryz.prog 178 [intsC xs, intC i] (intC (xs.getD i.toNat 0)) := by
  refine Ok.enter Tryz.func178 J _ Tryz.ntmps178 J ?_
  intro S w; refine Qw (Qx fun K hK => ?_); refine Qv J J J (Qj (hK _ _ ?_)); refine Qz (Qw (Qw (Qx fun K hK => ?_))); refine Qq J J J (Qq J J J (Qb J J sNat.und (List.length_map ..) J (Qk ilss J J J J (Qj (hK _ _ ?_))))); refine Qz (Q2 J (fun h => ?_) (fun h => ?_))
  · refine Qw (Qx fun K hK => ?_); refine Qq J J J (Qq J J J (Qh J J J sNat (by omega) (X9 (by omega) (by omega)) J ?_)); refine XQ J J J lInt J (Qv J J J (Qj (hK _ _ ?_))); refine Qz (Q0 (QZ ?_)); refine QU [_] rfl (Qu J QQ) J J
  · refine Q1 (Qz (Qw (Qx fun K hK => ?_))); refine Qv J J J (Qj (hK _ _ ?_)); refine Qz (Q0 ?_)
    have hx : xs.getD i.toNat 0 = 0 := by
      rw [List.getD_eq_getElem?_getD, List.getElem?_eq_none (by omega)]; rfl
    rw [hx]; refine QU [_] rfl (Qu J QQ) J J
end Go.Proofs.YtlkdkbdgnjcopaaGreat
namespace Go.Proofs.YtlkdkbdgnjcopaaGreat
open Go.Own Go.Limbs
attribute [local irreducible] St Ops Go.Own.Fin Ok
theorem trim_ok (xs : List Int) (hl : xs.length < 4611686018427387904) : Ok Tryz.prog 173 [intsC xs] (intsC (trimL xs)) := by
  refine Ok.enter Tryz.func173 J _ Tryz.ntmps173 J ?_
  intro S w; refine Qw (Qx fun K hK => ?_); refine Qv J J J (Qj (hK _ _ ?_)); refine Qz (Qw (Q5 ?_))
  refine Xx (α := List Int) (fun ys => trimL ys = trimL xs ∧ ys.length ≤ xs.length) (fun ys => [(0, .ct (intsC ys))]) (fun _ => []) (fun ys => ys.length) xs ⟨rfl, Nat.le_refl _⟩ (Entails.sub ⟨rfl, trivial⟩) ?_
  intro ys ⟨hy, hle⟩; refine Qw (Qw (Qx fun K hK => ?_)); refine Qq J J J (Qb J J sNat.und (List.length_map ..) J (Qk igtr J J J J (Qq J J J (Q7 6 J (fun h => ?_) (fun h => ?_)))))
  · refine Qq J J J (Qq J J J (Qb J J sNat.und (List.length_map ..) J (Qk (isub (by omega) (by omega)) J J J J ?_)))
    refine Qh J J J sNat (by omega) (X9 (by omega) (by omega)) J ?_
    refine XQ J J J lInt J (Qk ieql J J J J (QJ J J J J (Qj (hK _ _ ?_))))
    refine Qz ?_
    have e1 : ((ys.length : Int) - 1).toNat = ys.length - 1 := by omega
    refine Q2 J (fun h2 => ?_) (fun h2 => ?_)
    · rw [e1] at h2; refine Q1 (Qz (Q5 (Qx fun K hK => ?_))); refine Qq J J J (Qq J J J (Qb J J sNat.und (List.length_map ..) J (Qk (isub (by omega) (by omega)) J J J J ?_)))
      refine Ops.cutHi J J J sNat (by omega) (by simp) J ?_
      rw [← List.map_take]; refine Qv J J J (Qj (hK _ _ ?_)); refine Qd (Q4 ?_); refine Q8 (ys.take ((ys.length : Int) - 1).toNat) (by simp; omega) ⟨?_, by simp; omega⟩ (Entails.sub ⟨rfl, trivial⟩); rw [e1, ← hy]; exact trim_last (by omega) h2
    · rw [e1] at h2; refine Qs (Qz (Qw (Qx fun K hK => ?_))); refine Qq J J J (Qv J J J (Qj (hK _ _ ?_))); refine Qz (Q0 ?_); rw [← hy, trim_done (fun _ => h2)]; refine QU [_] rfl (Qu J QQ) J J
  · refine Qy J J J (Qy J J J (Qy J J J (Qy J J J (Qy J J J (Qy J J J (Qy J J J (QK J J J J (Qj (hK _ _ ?_))))))))); refine Qz (Xv J (Qs (Qz (Qw (Qx fun K hK => ?_))))); refine Qq J J J (Qv J J J (Qj (hK _ _ ?_))); refine Qz (Q0 ?_); rw [← hy, trim_done (fun h3 => absurd h3 (by omega))]; refine QU [_] rfl (Qu J QQ) J J
theorem gotrim : InGo Tryz.prog 173 := InGo.of Tryz.func173 (by kernel_rfl) (by kernel_rfl)
def resultC (xs : List Int) : CT := if (trimL xs).length > 256 then .fr (tupT [intsC [], intC 3]) else .fr (tupT [intsC (trimL xs), intC 0])
theorem result_ok (xs : List Int) (hl : xs.length ≤ 256) : Ok Tryz.prog 179 [intsC xs] (.fr (tupT [intsC (trimL xs), intC 0])) := by
  refine Ok.enter Tryz.func179 J _ Tryz.ntmps179 J ?_
  intro S w; refine Qw (Qx fun K hK => ?_); refine Qv J J J (Qv J J J (Qj (hK _ _ ?_))); refine Qz (Qw (Qw (Qx fun K hK => ?_))); refine Qq J J J (QW gotrim (trim_ok xs (by omega)) J J J J ?_); refine Qv J J J (Qj (hK _ _ ?_)); refine Qz (Qw (Qx fun K hK => ?_)); refine Qq J J J (Qb J J sNat.und (List.length_map ..) J (Qk igtr J J J J (Qj (hK _ _ ?_))))
  refine Qz ?_
  have := trim_len xs; refine Q2 J (fun h2 => ?_) (fun h2 => ?_)
  · omega
  · refine Q1 (Qz (Qw (Qx fun K hK => ?_))); refine Qq J J J (Qv J J J (Qv J J J (Qj (hK _ _ ?_)))); refine Qz (Q0 ?_); refine QU [_, _] rfl (Qu J (Qu J QQ)) J J
end Go.Proofs.YtlkdkbdgnjcopaaGreat
namespace Go.Limbs
abbrev BB : Int := 1073741824
def val : List Int → Int
  | [] => 0
  | x :: xs => x + BB * val xs
def OKL (xs : List Int) : Prop := ∀ x ∈ xs, 0 ≤ x ∧ x < BB
theorem OKL.nil : OKL [] := fun _ h => by cases h
theorem OKL.cons {x : Int} {xs : List Int} (h : 0 ≤ x ∧ x < BB) (hs : OKL xs) : OKL (x :: xs) := fun y hy => by
  rcases List.mem_cons.1 hy with rfl | hy
  · exact h
  · exact hs y hy
theorem OKL.tail {x : Int} {xs : List Int} (h : OKL (x :: xs)) : OKL xs := fun y hy => h y (List.mem_cons_of_mem _ hy)
theorem OKL.head {x : Int} {xs : List Int} (h : OKL (x :: xs)) : 0 ≤ x ∧ x < BB := h x (List.mem_cons_self ..)
theorem OKL.append {xs ys : List Int} (h : OKL xs) (h' : OKL ys) : OKL (xs ++ ys) := fun y hy => by
  rcases List.mem_append.1 hy with hy | hy
  · exact h y hy
  · exact h' y hy
theorem OKL.take {xs : List Int} (h : OKL xs) (n : Nat) : OKL (xs.take n) := fun y hy => h y (List.mem_of_mem_take hy)
theorem OKL.drop {xs : List Int} (h : OKL xs) (n : Nat) : OKL (xs.drop n) := fun y hy => h y (List.mem_of_mem_drop hy)
theorem OKL.zeros (n : Nat) : OKL (List.replicate n 0) := fun y hy => by rw [List.eq_of_mem_replicate hy]; decide
theorem OKL.set {xs : List Int} (h : OKL xs) (i : Nat) {x : Int} (hx : 0 ≤ x ∧ x < BB) : OKL (xs.set i x) := fun y hy => by
  rcases List.mem_or_eq_of_mem_set hy with hy | rfl
  · exact h y hy
  · exact hx
theorem OKL.get {xs : List Int} (h : OKL xs) (i : Nat) : 0 ≤ xs.getD i 0 ∧ xs.getD i 0 < BB := by
  rw [List.getD_eq_getElem?_getD]
  cases e : xs[i]? with
  | none => decide
  | some x => exact h x (List.mem_of_getElem? e)
theorem Yk {xs : List Int} (h : OKL xs) : 0 ≤ val xs := by
  induction xs with
  | nil => decide
  | cons x xs ih => have := ih h.tail; have := h.head; simp only [val, BB] at *; omega
theorem YQ (xs ys : List Int) : val (xs ++ ys) = val xs + BB ^ xs.length * val ys := by
  induction xs with
  | nil => simp [val]
  | cons x xs ih => simp only [List.cons_append, val, ih, List.length_cons]; grind
theorem YU (n : Nat) : val (List.replicate n 0) = 0 := by
  induction n with
  | zero => rfl
  | succ n ih => simp [List.replicate_succ, val, ih]
theorem val_trim (xs : List Int) : val (trimL xs) = val xs := by
  induction xs with
  | nil => rfl
  | cons x xs ih =>
    simp only [trimL]; split
    · rename_i e
      rw [e] at ih; simp only [val] at ih ⊢; split
      · rename_i e0; subst e0; simp [val, ← ih]
      · simp [val, ← ih]
    · rename_i y ys e; rw [e] at ih; simp only [val] at ih ⊢; rw [ih]
theorem OKL.trim {xs : List Int} (h : OKL xs) : OKL (trimL xs) := by
  induction xs with
  | nil => exact h
  | cons x xs ih =>
    simp only [trimL]; split
    · split
      · exact OKL.nil
      · exact OKL.cons h.head OKL.nil
    · rename_i y ys e
      have := ih h.tail; rw [e] at this; exact OKL.cons h.head this
def limbs (n : Nat) : List Int := if h : n = 0 then [] else ((n % 1073741824 : Nat) : Int) :: limbs (n / 1073741824)
termination_by n
decreasing_by exact Nat.div_lt_self (by omega) (by decide)
theorem limbs_zero : limbs 0 = [] := by unfold limbs; rfl
theorem limbs_pos {n : Nat} (h : n ≠ 0) : limbs n = ((n % 1073741824 : Nat) : Int) :: limbs (n / 1073741824) := by rw [limbs]; simp [h]
theorem X2 (n : Nat) : OKL (limbs n) := by
  induction n using Nat.strongRecOn with
  | ind n ih =>
    by_cases h : n = 0
    · subst h; rw [limbs_zero]; exact OKL.nil
    · rw [limbs_pos h]; refine OKL.cons (by simp only [BB]; omega) (ih _ (Nat.div_lt_self (by omega) (by decide)))
theorem Xn (n : Nat) : val (limbs n) = n := by
  induction n using Nat.strongRecOn with
  | ind n ih =>
    by_cases h : n = 0
    · subst h; rw [limbs_zero]; rfl
    · rw [limbs_pos h, val, ih _ (Nat.div_lt_self (by omega) (by decide))]; simp only [BB]; omega
theorem Zl {n : Nat} (h : limbs n = []) : n = 0 := by
  by_cases h0 : n = 0
  · exact h0
  · rw [limbs_pos h0] at h; cases h
theorem limbs_val {xs : List Int} (h : OKL xs) (ht : trimL xs = xs) : xs = limbs (val xs).toNat := by
  induction xs with
  | nil => simp [val, limbs_zero]
  | cons x xs ih =>
    have hx := h.head; have hv := Yk h.tail
    have ht2 : trimL xs = xs ∧ ¬ (xs = [] ∧ x = 0) := by
      simp only [trimL] at ht; split at ht
      · rename_i e
        split at ht
        · cases ht
        · rename_i hne; injection ht with _ h2; subst h2; exact ⟨e, fun h => hne h.2⟩
      · rename_i y ys e; injection ht with _ h2; rw [e, h2]; exact ⟨rfl, fun h => by rw [h.1] at h2; cases h2⟩
    have ih2 := ih h.tail ht2.1
    have hne : (val (x :: xs)).toNat ≠ 0 := by
      intro h0; simp only [val, BB] at h0
      have hx0 : x = 0 := by simp only [BB] at hx; omega
      have hv0 : val xs = 0 := by omega
      rw [hv0] at ih2; exact ht2.2 ⟨by rw [ih2]; exact limbs_zero, hx0⟩
    rw [limbs_pos hne]; simp only [val, BB] at *
    congr 1
    · omega
    · rw [ih2]; congr 1; rw [← ih2]; omega
theorem trim_trim (xs : List Int) : trimL (trimL xs) = trimL xs := by
  induction xs with
  | nil => rfl
  | cons x xs ih =>
    simp only [trimL]; split
    · split
      · rfl
      · rename_i h; simp [trimL, h]
    · rename_i y ys e; rw [e] at ih; rw [trimL, ih]
theorem Zw {xs : List Int} (h : OKL xs) : trimL xs = limbs (val xs).toNat := by
  have := limbs_val h.trim (trim_trim xs)
  rwa [val_trim] at this
theorem trim_of_limbs (n : Nat) : trimL (limbs n) = limbs n := by rw [Zw (X2 n), Xn]; simp
def pre (xs : List Int) (i : Nat) : Int := val (xs.take i)
theorem Z0 (xs : List Int) : pre xs 0 = 0 := by simp [pre, val]
theorem X4 (xs : List Int) (i : Nat) : pre xs (i + 1) = pre xs i + xs.getD i 0 * BB ^ i := by
  unfold pre; by_cases h : i < xs.length
  · rw [List.take_succ_eq_append_getElem h, YQ]
    have hl : (xs.take i).length = i := by simp; omega
    rw [hl]; simp [val, List.getD_eq_getElem?_getD, List.getElem?_eq_getElem h]; grind
  · rw [List.take_of_length_le (by omega), List.take_of_length_le (by omega), List.getD_eq_getElem?_getD, List.getElem?_eq_none (by omega)]; simp
theorem ZY {xs : List Int} {i : Nat} (h : xs.length ≤ i) : pre xs i = val xs := by unfold pre; rw [List.take_of_length_le h]
theorem set_snoc {zs : List Int} {n : Nat} (x : Int) : (zs ++ List.replicate (n + 1) 0).set zs.length x = (zs ++ [x]) ++ List.replicate n 0 := by
  rw [List.set_append_right _ _ (Nat.le_refl _)]; simp [List.replicate_succ]
theorem XW {n k : Nat} (h : n < 1073741824 ^ k) : (limbs n).length ≤ k := by
  induction k generalizing n with
  | zero => have : n = 0 := by omega
            subst this; simp [limbs_zero]
  | succ k ih =>
    by_cases h0 : n = 0
    · subst h0; simp [limbs_zero]
    · rw [limbs_pos h0]
      have : n / 1073741824 < 1073741824 ^ k := by rw [Nat.div_lt_iff_lt_mul (by decide)]; rw [Nat.pow_succ] at h; exact h
      have := ih this; simp; omega
theorem Xi {n k : Nat} (h : (limbs n).length ≤ k) : n < 1073741824 ^ k := by
  induction k generalizing n with
  | zero =>
    have : limbs n = [] := List.eq_nil_of_length_eq_zero (by omega); have := Zl this; subst this; decide
  | succ k ih =>
    by_cases h0 : n = 0
    · subst h0; exact Nat.pow_pos (by decide)
    · rw [limbs_pos h0] at h; have := ih (n := n / 1073741824) (by simpa using h); rw [Nat.div_lt_iff_lt_mul (by decide)] at this; rw [Nat.pow_succ]; exact this
end Go.Limbs
namespace Go.Proofs.YtlkdkbdgnjcopaaGreat
open Go.Own Go.Limbs
attribute [local irreducible] St Ops Go.Own.Fin Ok
theorem goat : InGo Tryz.prog 178 := InGo.of Tryz.func178 (by kernel_rfl) (by kernel_rfl)
theorem goresult : InGo Tryz.prog 179 := InGo.of Tryz.func179 (by kernel_rfl) (by kernel_rfl)
abbrev natC (n : Nat) : CT := intsC (limbs n)
theorem Add_list (xs ys : List Int) (hx : xs.length ≤ 200) (hy : ys.length ≤ 200) (bx : OKL xs) (by' : OKL ys) :
    Ok Tryz.prog 140 [intsC xs, intsC ys] (.fr (tupT [natC (val xs + val ys).toNat, intC 0])) := by
  refine Ok.enter Tryz.func140 J _ Tryz.ntmps140 J ?_
  intro S w; refine Qw (Qx fun K hK => ?_); refine Qv J J J (Qv J J J (Qj (hK _ _ ?_))); refine Qz (Qw (Qx fun K hK => ?_)); refine Qq J J J (Qb J J sNat.und (List.length_map ..) J (Qq J J J (Qb J J sNat.und (List.length_map ..) J (Ops.max2 J J J J (Qv J J J (Qj (hK _ _ ?_))))))); refine Qz (Qw (Qx fun K hK => ?_)); refine Qq J J J (Qk (iadd (by omega) (by omega)) J J J J ?_)
  refine Ops.make 0 (max xs.length ys.length + 1) J J J (by omega) sNat (by omega) (by omega) J J J ?_
  rw [ints_made]; refine Qv J J J (Qj (hK _ _ ?_)); refine Qz (Qw (Qx fun K hK => ?_)); refine Qv J J J (Qj (hK _ _ ?_)); refine Qz (Qw (Qw (Qx fun K hK => ?_))); refine Qq J J J (Qq J J J (Qj (hK _ _ ?_))); refine Qz (Q5 ?_)
  refine Xx (α := Nat × List Int × Int) (fun s => s.1 ≤ max xs.length ys.length ∧ s.2.1.length = s.1 ∧ OKL s.2.1 ∧ 0 ≤ s.2.2 ∧ s.2.2 ≤ 1 ∧ val s.2.1 + s.2.2 * BB ^ s.1 = pre xs s.1 + pre ys s.1)
    (fun s => [(0, .ct (intsC xs)), (1, .ct (intsC ys)), (6, .ct (intC (max ↑xs.length ↑ys.length))), (7, .own 0), (8, .ct (intC s.2.2)), (19, .ct (intC (max ↑xs.length ↑ys.length))), (20, .ct (intC s.1))])
    (fun s => [(0, .row 3 1 (ints (s.2.1 ++ List.replicate (max xs.length ys.length + 1 - s.1) 0)))])
    (fun s => max xs.length ys.length - s.1) (0, [], 0) ⟨Nat.zero_le _, rfl, OKL.nil, by decide, by decide, by simp [val, Z0]⟩ (by exact QX J ⟨rfl, rfl, rfl, rfl, rfl, rfl, rfl, trivial⟩) ?_
  rintro ⟨i, zs, c⟩ ⟨hi, hz, hok, hc0, hc1, hv⟩
  dsimp only at hi hz hok hc0 hc1 hv ⊢; refine Qw (Qx fun K hK => ?_); refine Qk ilss J J J J (Qj (hK _ _ ?_)); refine Qz (Qw ?_); refine Q2 J (fun h => ?_) (fun h => ?_)
  · have b1 := bx.get i
    have b2 := by'.get i
    simp only [BB] at b1 b2; refine Q1 (Qz (Qw (Q5 (Qw (Qx fun K hK => ?_))))); refine Qq J J J (Qv J J J (Qj (hK _ _ ?_))); refine Qz (Qw (Qx fun K hK => ?_)); refine Qq J J J (Qq J J J (QW goat (at_ok xs i (by omega)) J J J J ?_)); refine Qq J J J (Qq J J J (QW goat (at_ok ys i (by omega)) J J J J ?_)); rw [Int.toNat_natCast]
    refine Qk (iadd (by omega) (by omega)) J J J J ?_
    refine Qq J J J (Qk (iadd (by omega) (by omega)) J J J J ?_); refine Qv J J J (Qj (hK _ _ ?_)); refine Qz (Qx fun K hK => ?_); refine Qq J J J (Qq J J J (Qq J J J (Qk iand30 J J J J (Qq J J J (Qk ishr30 J J J J (Xu (max xs.length ys.length + 1) J J J (by simp; omega) J sNat (by omega) (by omega) J ?_))))))
    refine XY J J J J J zInt (by simp [Ent.cs]; omega) ?_
    simp only [Ent.setc, Z8]; refine Qv J J J (Qj (hK _ _ ?_)); refine Qz (Qx fun K hK => ?_)
    refine Qk (iadd (by omega) (by omega)) J J J J ?_
    refine Qq J J J (Qj (hK _ _ ?_)); refine Q4 (Q8 (i + 1, zs ++ [(xs.getD i 0 + ys.getD i 0 + c) % 1073741824], (xs.getD i 0 + ys.getD i 0 + c) / 1073741824) (by dsimp only; omega) ⟨by dsimp only; omega, by simp [hz], ?_, ?_, ?_, ?_⟩ ?_)
    all_goals dsimp only
    · exact hok.append (OKL.cons (by simp only [BB]; omega) OKL.nil)
    · omega
    · omega
    · rw [YQ, hz, X4, X4]; have e := Int.mul_ediv_add_emod (xs.getD i 0 + ys.getD i 0 + c) 1073741824; simp only [val, BB] at *; generalize (xs.getD i 0 + ys.getD i 0 + c) / 1073741824 = q at *; generalize (xs.getD i 0 + ys.getD i 0 + c) % 1073741824 = m at *
      grind
    · refine QX ?_ ⟨rfl, rfl, rfl, rfl, rfl, rfl, by simp only [Int.natCast_add]; rfl, trivial⟩
      have e1 : max xs.length ys.length + 1 - i = (max xs.length ys.length - i) + 1 := by omega
      have e2 : max xs.length ys.length + 1 - (i + 1) = max xs.length ys.length - i := by omega
      have e3 : (i : Int).toNat * 1 = zs.length := by omega
      rw [e1, e2, e3, set_snoc]; rfl
  · refine Qs (Qz (Qw (Qx fun K hK => ?_))); refine Qq J J J (Qq J J J (Qq J J J ?_))
    have hi' : i = max xs.length ys.length := by omega
    have e1 : max xs.length ys.length + 1 - i = 0 + 1 := by omega
    refine Xu (max xs.length ys.length + 1) J J J (by simp; omega) J sNat (by omega) (by omega) J ?_
    refine XY J J J J J zInt (by simp [Ent.cs]; omega) ?_
    simp only [Ent.setc, Z8]
    have e3 : (max (xs.length : Int) ys.length).toNat * 1 = zs.length := by omega
    rw [e3, e1, set_snoc]; refine Qj (hK _ _ ?_); refine Qz (Qw (Qx fun K hK => ?_)); refine Qq J J J (Zx 0 _ J (Zz _ _) noBor_sub (QW goresult (result_ok _ (by simp; omega)) J J J J ?_))
    have e4 : trimL (zs ++ [c] ++ List.replicate 0 0) = limbs (val xs + val ys).toNat := by
      have h1 : OKL (zs ++ [c]) := hok.append (OKL.cons (by simp only [BB]; omega) OKL.nil); simp only [List.replicate_zero, List.append_nil]; rw [Zw h1, YQ, hz]; rw [ZY (by omega), ZY (by omega)] at hv
      congr 2
      simp only [val]; grind
    rw [e4]; refine Q9 J J J J (Q9 J J J J (Qv J J J (Qv J J J (Qj (hK _ _ ?_))))); refine Qz (Q0 ?_); refine QU [_, _] rfl (Qu J (Qu J QQ)) J J
end Go.Proofs.YtlkdkbdgnjcopaaGreat
namespace Go.Limbs
def cmpI (a b : Int) : Int := if a < b then -1 else if b < a then 1 else 0
theorem cmpI_neg {a b : Int} : cmpI a b < 0 ↔ a < b := by unfold cmpI; split <;> (try split) <;> omega
theorem Xt (a b : Int) : cmpI a b = if a < b then -1 else if b < a then 1 else 0 := rfl
theorem YJ {xs : List Int} (h : OKL xs) (i : Nat) : 0 ≤ pre xs i ∧ pre xs i < BB ^ i := by
  induction i with
  | zero => rw [Z0]; simp
  | succ i ih =>
    rw [X4]; have := h.get i; have hp : 0 < BB ^ i := Int.pow_pos (by decide); obtain ⟨h1, h2⟩ := this; refine ⟨?_, ?_⟩
    · have := Int.mul_nonneg h1 (Int.le_of_lt hp); omega
    · have h3 : xs.getD i 0 * BB ^ i ≤ (BB - 1) * BB ^ i := Int.mul_le_mul_of_nonneg_right (by omega) (Int.le_of_lt hp)
      have h4 : BB ^ (i + 1) = BB * BB ^ i := by rw [Int.pow_succ, Int.mul_comm]
      rw [h4]
      have h5 : (BB - 1) * BB ^ i = BB * BB ^ i - BB ^ i := by rw [Int.sub_mul, Int.one_mul]
      omega
theorem pre_decides {xs ys : List Int} (hx : OKL xs) (hy : OKL ys) {k : Nat} (h : xs.getD k 0 < ys.getD k 0) : pre xs (k + 1) < pre ys (k + 1) := by
  rw [X4, X4]; have h1 := YJ hx k; have h2 := YJ hy k; have hp : 0 < BB ^ k := Int.pow_pos (by decide); have h3 : (xs.getD k 0 + 1) * BB ^ k ≤ ys.getD k 0 * BB ^ k := Int.mul_le_mul_of_nonneg_right (by omega) (Int.le_of_lt hp); rw [Int.add_mul, Int.one_mul] at h3; omega
theorem X8 {a b : Nat} (h : a ≤ b) : (limbs a).length ≤ (limbs b).length := XW (Nat.lt_of_le_of_lt h (Xi (Nat.le_refl _)))
theorem lt_of_len {a b : Nat} (h : (limbs a).length < (limbs b).length) : a < b := by
  rcases Nat.lt_or_ge a b with h1 | h1
  · exact h1
  · have := X8 h1; omega
theorem val_eq_pre (n : Nat) : pre (limbs n) (limbs n).length = n := by rw [ZY (Nat.le_refl _), Xn]
def validL (xs : List Int) : Bool := xs.all (fun x => decide (0 ≤ x) && decide (x < BB)) && decide (xs.length ≤ 256) && (decide (xs.length = 0) || decide (xs.getD (xs.length - 1) 0 ≠ 0))
end Go.Limbs
namespace Go.Proofs.YtlkdkbdgnjcopaaGreat
open Go.Own Go.Limbs
attribute [local irreducible] St Ops Go.Own.Fin Ok
theorem isNaN_ok (x : Int) : Ok Tryz.prog 160 [intC x] (boolC false) := by
  refine Ok.enter Tryz.func160 J _ Tryz.ntmps160 J ?_
  intro S w; refine Qw (Qx fun K hK => ?_); refine Qv J J J (Qj (hK _ _ ?_)); refine Qz (Qw (Qx fun K hK => ?_)); refine Qq J J J (Qq J J J (Qk ineq J J J J (Qv J J J (Qj (hK _ _ ?_))))); refine Qz (Q0 ?_)
  have : decide (x ≠ x) = false := by simp
  rw [this]; refine QU [_] rfl (Qu J QQ) J J
theorem goisNaN : InGo Tryz.prog 160 := InGo.of Tryz.func160 (by kernel_rfl) (by kernel_rfl)
theorem cmp_ok (x y : Int) : Ok Tryz.prog 124 [intC x, intC y] (intC (cmpI x y)) := by
  refine Ok.enter Tryz.func124 J _ Tryz.ntmps124 J ?_
  intro S w; refine Qw (Qx fun K hK => ?_); refine Qv J J J (Qj (hK _ _ ?_)); refine Qz (Qw (Qx fun K hK => ?_)); refine Qq J J J (QW goisNaN (isNaN_ok x) J J J J (Qv J J J (Qj (hK _ _ ?_)))); refine Qz (Qw (Qx fun K hK => ?_)); refine Qq J J J (QW goisNaN (isNaN_ok y) J J J J (Qv J J J (Qj (hK _ _ ?_)))); refine Qz (Qw (Qw (Qx fun K hK => ?_))); refine Qq J J J (Qj (hK _ _ ?_)); refine Qz (Xv J (Q1 (Qz (Qw (Qw (Qx fun K hK => ?_)))))); refine Qq J J J (Qj (hK _ _ ?_)); refine Qz (Xv J (Q1 (Qz (Qw (Qw (Qx fun K hK => ?_)))))); refine Qq J J J (Qq J J J (Qk ilss J J J J (Qj (hK _ _ ?_)))); refine Qz (Q2 J (fun h => ?_) (fun h => ?_))
  · refine Qw (Qx fun K hK => ?_); refine Qv J J J (Qj (hK _ _ ?_)); refine Qz (Q0 (QZ ?_)); rw [Xt, if_pos h]; refine QU [_] rfl (Qu J QQ) J J
  · refine Q1 (Qz (Qw (Qw (Qx fun K hK => ?_)))); refine Qq J J J (Qq J J J (Qk igtr J J J J (Qj (hK _ _ ?_)))); refine Qz (Q2 J (fun h2 => ?_) (fun h2 => ?_))
    · refine Qw (Qx fun K hK => ?_); refine Qv J J J (Qj (hK _ _ ?_)); refine Qz (Q0 (QZ ?_)); rw [Xt, if_neg h, if_pos h2]; refine QU [_] rfl (Qu J QQ) J J
    · refine Q1 (Qz (Qw (Qx fun K hK => ?_))); refine Qv J J J (Qj (hK _ _ ?_)); refine Qz (Q0 ?_); rw [Xt, if_neg h, if_neg h2]; refine QU [_] rfl (Qu J QQ) J J
theorem gocmp : InGo Tryz.prog 124 := InGo.of Tryz.func124 (by kernel_rfl) (by kernel_rfl)
set_option maxHeartbeats 2000000 in
theorem Compare_ok (a b : Nat) (ha : (limbs a).length < 4611686018427387904) (hb : (limbs b).length < 4611686018427387904) : Ok Tryz.prog 174 [natC a, natC b] (intC (cmpI a b)) := by
  refine Ok.enter Tryz.func174 J _ Tryz.ntmps174 J ?_
  intro S w; refine Qw (Qx fun K hK => ?_); refine Qv J J J (Qj (hK _ _ ?_)); refine Qz (Qw (Qw (Qx fun K hK => ?_))); refine Qq J J J (Qb J J sNat.und (List.length_map ..) J (Qq J J J (Qb J J sNat.und (List.length_map ..) J (QW gocmp (cmp_ok _ _) J J J J (Qv J J J (Qj (hK _ _ ?_))))))); refine Qz (Qw (Qx fun K hK => ?_)); refine Qq J J J (Qk ineq J J J J (Qj (hK _ _ ?_))); refine Qz (Q2 J (fun h => ?_) (fun h => ?_))
  · refine Qw (Qx fun K hK => ?_); refine Qq J J J (Qv J J J (Qj (hK _ _ ?_))); refine Qz (Q0 (QZ ?_))
    have e : cmpI ((limbs a).length : Int) ((limbs b).length : Int) = cmpI (a : Int) (b : Int) := by
      rcases Nat.lt_trichotomy (limbs a).length (limbs b).length with h1 | h1 | h1
      · have := lt_of_len h1; rw [Xt, Xt, if_pos (by omega), if_pos (by omega)]
      · rw [h1] at h; simp [cmpI] at h
      · have := lt_of_len h1; rw [Xt, Xt, if_neg (by omega), if_pos (by omega), if_neg (by omega), if_pos (by omega)]
    rw [e]; refine QU [_] rfl (Qu J QQ) J J
  · have hl : (limbs a).length = (limbs b).length := by
      simp only [ne_eq, Classical.not_not] at h; unfold cmpI at h; split at h
      · cases h
      · split at h
        · cases h
        · omega
    clear h; refine Q1 (Qz (Qw (Qw (Qx fun K hK => ?_)))); refine Qq J J J (Qb J J sNat.und (List.length_map ..) J (Qk (isub (by omega) (by omega)) J J J J ?_)); refine Qv J J J (Qj (hK _ _ ?_)); refine Qz (Q5 ?_)
    refine Xx (α := Nat) (fun k => k ≤ (limbs a).length ∧ pre (limbs a) k - pre (limbs b) k = (a : Int) - b)
      (fun k => [(0, .ct (natC a)), (1, .ct (natC b)), (6, .ct (intC ((k : Int) - 1)))]) (fun _ => []) (fun k => k) (limbs a).length ⟨Nat.le_refl _, ?_⟩ (by exact QX J ⟨rfl, rfl, rfl, trivial⟩) ?_
    · have e1 := val_eq_pre a; have e2 := val_eq_pre b; rw [← hl] at e2; rw [e1, e2]
    intro k ⟨hk, hv⟩; dsimp only; refine Qw (Qw (Qx fun K hK => ?_)); refine Qq J J J (Qk igeq J J J J (Qj (hK _ _ ?_))); refine Qz (Q2 J (fun h => ?_) (fun h => ?_))
    · obtain ⟨q, rfl⟩ : ∃ q, k = q + 1 := ⟨k - 1, by omega⟩
      have e1 : (((q + 1 : Nat) : Int) - 1) = (q : Int) := by omega
      have e2 : (q : Int).toNat = q := Int.toNat_natCast q; rw [e1]; refine Q1 (Qz (Qw (Q5 (Qw ?_)))); refine Xw mixed 9 (.p 0 (.p 1 (.p 2 (.p 4 (.p 5 (.p 6 (.f 3 (.f 7 (.p 8 .done))))))))) (by kernel_rfl) (fun K hK => ?_); refine Qq J J J (Qq J J J (Qh J J J sNat (by omega) (X9 (by omega) (by omega)) J ?_)); refine Qq J J J (Qq J J J (Qh J J J sNat (by omega) (X9 (by omega) (by omega)) J ?_)); refine XQ J J J lInt J (XQ J J J lInt J (Qk ineq J J J J (Qj (hK _ _ ?_)))); refine Qz (Q2 J (fun h2 => ?_) (fun h2 => ?_))
      · refine Qw (Xw mixed 10 (.p 0 (.p 1 (.p 2 (.p 4 (.p 5 (.p 6 (.f 3 (.f 7 (.m 8 (.p 9 .done)))))))))) (by kernel_rfl) (fun K hK => ?_)); refine Qq J J J (Qq J J J (Qh J J J sNat (by omega) (X9 (by omega) (by omega)) J ?_)); refine Qq J J J (Qq J J J (Qh J J J sNat (by omega) (X9 (by omega) (by omega)) J ?_)); refine XQ J J J lInt J (XQ J J J lInt J (QW gocmp (cmp_ok _ _) J J J J ?_)); rw [e2] at h2 ⊢
        have e : cmpI ((limbs a).getD q 0) ((limbs b).getD q 0) = cmpI (a : Int) (b : Int) := by
          rcases Int.lt_or_gt_of_ne h2 with h3 | h3
          · have := pre_decides (X2 a) (X2 b) h3; rw [Xt, Xt, if_pos h3, if_pos (by omega)]
          · have := pre_decides (X2 b) (X2 a) h3; rw [Xt, Xt, if_neg (by omega), if_pos h3, if_neg (by omega), if_pos (by omega)]
        rw [e]; refine Qv J J J (Qj (hK _ _ ?_)); refine Qz (Q0 (Q3 (QZ (QZ (Q3 (QZ ?_)))))); refine QU [_] rfl (Qu J QQ) J J
      · rw [e2] at h2; refine Q1 (Qz (Qx fun K hK => ?_)); refine Qq J J J (Qk (isub (by omega) (by omega)) J J J J ?_); refine Qv J J J (Qj (hK _ _ ?_)); refine Q4 (Q8 q (by omega) ⟨by omega, ?_⟩ (by exact QX J ⟨rfl, rfl, rfl, trivial⟩)); rw [X4, X4] at hv; have : (limbs a).getD q 0 = (limbs b).getD q 0 := Classical.not_not.1 h2; rw [this] at hv; omega
    · refine Qs (Qz (Qw (Qx fun K hK => ?_))); refine Qv J J J (Qj (hK _ _ ?_)); refine Qz (Q0 ?_)
      have hk0 : k = 0 := by omega
      subst hk0; rw [Z0, Z0] at hv; rw [Xt, if_neg (by omega), if_neg (by omega)]; refine QU [_] rfl (Qu J QQ) J J
theorem goCompare : InGo Tryz.prog 174 := InGo.of Tryz.func174 (by kernel_rfl) (by kernel_rfl)
set_option maxHeartbeats 2000000 in
theorem From_ok (n : Nat) (hn : n < 9223372036854775808) : Ok Tryz.prog 139 [intC n] (.fr (tupT [natC n, intC 0])) := by
  refine Ok.enter Tryz.func139 J _ Tryz.ntmps139 J ?_
  intro S w; refine Qw (Qx fun K hK => ?_); refine Qv J J J (Qv J J J (Qj (hK _ _ ?_))); refine Qz (Qw (Qw (Qx fun K hK => ?_))); refine Qq J J J (Qk ilss J J J J (Qj (hK _ _ ?_))); refine Qz (Xv J (Q1 (Qz (Qw (Qx fun K hK => ?_))))); refine Qv J J J (Qj (hK _ _ ?_)); refine Qz (Qw (Q5 ?_))
  refine Xg 4 0 3 1 J J J ?_
  refine Xx (α := Nat × List Int) (fun s => s.1 ≤ n ∧ limbs n = s.2 ++ limbs s.1)
    (fun s => [(0, .ct (intC s.1)), (4, .own 0)]) (fun s => [(0, .row 3 1 (ints s.2))]) (fun s => s.1) (n, []) ⟨Nat.le_refl _, rfl⟩ (by exact QX J ⟨rfl, rfl, trivial⟩) ?_
  rintro ⟨m, zs⟩ ⟨hm, hv⟩
  dsimp only at hm hv ⊢
  have hl : zs.length ≤ 64 := by
    have h1 := congrArg List.length hv; have h2 := XW (n := n) (k := 3) (by omega); simp at h1; omega
  refine Qw (Qw (Qx fun K hK => ?_)); refine Qq J J J (Qk igtr J J J J (Qj (hK _ _ ?_))); refine Qz (Q2 J (fun h => ?_) (fun h => ?_))
  · refine Q1 (Qz (Qw (Q5 (Qx fun K hK => ?_)))); refine Qq J J J (Qq J J J (Qk iand30 J J J J (Zj J J sNat J J J (Qt zs.length (ints (zs ++ [(m : Int) % 1073741824])) J J J J sNat (by simp) J (by omega) (by omega) (by simp [ints]) J ?_)))); refine Qv J J J (Qj (hK _ _ ?_)); refine Qz (Qx fun K hK => ?_); refine Qq J J J (Qk ishr30 J J J J (Qv J J J (Qj (hK _ _ ?_)))); refine Q4 (Q8 (m / 1073741824, zs ++ [(m : Int) % 1073741824]) (by dsimp only; omega) ⟨by dsimp only; omega, ?_⟩ ?_)
    all_goals dsimp only
    · rw [hv, limbs_pos (n := m) (by omega)]; simp
    · exact QX J ⟨by rw [Int.natCast_ediv]; rfl, rfl, trivial⟩
  · have : m = 0 := by omega
    subst this; rw [limbs_zero, List.append_nil] at hv; subst hv; refine Zi 0 _ J (Zz _ _) noBor_sub (Qs (Qz (Qw (Qx fun K hK => ?_)))); refine Qq J J J (Qv J J J (Qv J J J (Qj (hK _ _ ?_)))); refine Qz (Q0 ?_); refine QU [_, _] rfl (Qu J (Qu J QQ)) J J
theorem goFrom : InGo Tryz.prog 139 := InGo.of Tryz.func139 (by kernel_rfl) (by kernel_rfl)
end Go.Proofs.YtlkdkbdgnjcopaaGreat
namespace Go.Limbs
theorem val_set {xs : List Int} {p : Nat} (h : p < xs.length) (v : Int) : val (xs.set p v) = val xs + (v - xs.getD p 0) * BB ^ p := by
  induction xs generalizing p with
  | nil => simp at h
  | cons x xs ih =>
    cases p with
    | zero => simp [val]; omega
    | succ p =>
      have := ih (p := p) (by simpa using h); simp only [List.set_cons_succ, val, this, List.getD_cons_succ, Int.pow_succ]
      grind
theorem getD_set {xs : List Int} {p j : Nat} (h : p < xs.length) (v : Int) : (xs.set p v).getD j 0 = if p = j then v else xs.getD j 0 := by
  simp only [List.getD_eq_getElem?_getD, List.getElem?_set]; by_cases hp : p = j
  · subst hp; simp [h]
  · simp [hp]
theorem mul_bd {x y : Int} (hx : 0 ≤ x ∧ x < BB) (hy : 0 ≤ y ∧ y < BB) : 0 ≤ x * y ∧ x * y ≤ 1152921502459363329 := by
  simp only [BB] at hx hy; refine ⟨Int.mul_nonneg hx.1 hy.1, ?_⟩; have h1 : x * y ≤ 1073741823 * 1073741823 := Int.mul_le_mul (by omega) (by omega) hy.1 (by omega); omega
theorem val_of_zeros {xs : List Int} {p : Nat} (h : ∀ j, p ≤ j → xs.getD j 0 = 0) : val xs = pre xs p := by
  have key : ∀ n, pre xs (p + n) = pre xs p := by
    intro n
    induction n with
    | zero => rfl
    | succ n ih => rw [show p + (n + 1) = (p + n) + 1 by omega, X4, ih, h (p + n) (by omega)]; simp
  rw [← key xs.length, ZY (by omega)]
theorem limbs_mul_len {a b : Nat} : (limbs (a * b)).length ≤ (limbs a).length + (limbs b).length := by
  apply XW
  rw [Nat.pow_add]; exact Nat.mul_lt_mul'' (Xi (Nat.le_refl _)) (Xi (Nat.le_refl _))
end Go.Limbs
namespace Go.Proofs.YtlkdkbdgnjcopaaGreat
open Go.Own Go.Limbs
attribute [local irreducible] St Ops Go.Own.Fin Ok
theorem top_step {A : List Int} {i : Nat} {vo rest b : Int} (hv : vo * b + rest * BB ^ (i + 1) = val A - pre A (i + 1)) :
    (vo + (rest * 1073741824 + A.getD i 0) / b * BB ^ i) * b + (rest * 1073741824 + A.getD i 0) % b * BB ^ i = val A - pre A i := by
  rw [X4, Int.pow_succ] at hv; have e := Int.mul_ediv_add_emod (rest * 1073741824 + A.getD i 0) b; simp only [BB] at *; generalize (rest * 1073741824 + A.getD i 0) / b = q at *; generalize (rest * 1073741824 + A.getD i 0) % b = m at *
  grind
set_option maxHeartbeats 2000000 in
theorem small_ok (a : Nat) (b : Int) (hb : 0 < b) (hb2 : b < BB) (hl : (limbs a).length ≤ 256) : Ok Tryz.prog 175 [natC a, intC b] (.fr (tupT [natC ((a : Int) / b).toNat, intC ((a : Int) % b)])) := by
  simp only [BB] at hb2
  refine Ok.enter Tryz.func175 J _ Tryz.ntmps175 J ?_
  intro S w; refine Qw (Qx fun K hK => ?_); refine Qv J J J (Qv J J J (Qj (hK _ _ ?_))); refine Qz (Qw (Qx fun K hK => ?_)); refine Qq J J J (Qb J J sNat.und (List.length_map ..) J (Ops.make 0 (limbs a).length J J J J sNat (by omega) (by omega) J J J ?_)); rw [ints_made]; refine Qv J J J (Qj (hK _ _ ?_)); refine Qz (Qw (Qx fun K hK => ?_)); refine Qv J J J (Qj (hK _ _ ?_)); refine Qz (Qw (Qw (Qx fun K hK => ?_))); refine Qq J J J (Qb J J sNat.und (List.length_map ..) J (Qk (isub (by omega) (by omega)) J J J J ?_)); refine Qv J J J (Qj (hK _ _ ?_)); refine Qz (Q5 ?_)
  refine Xx (α := Nat × List Int × Int) (fun s => s.1 ≤ (limbs a).length ∧ s.2.1.length = (limbs a).length ∧ OKL s.2.1 ∧ (∀ j, j < s.1 → s.2.1.getD j 0 = 0) ∧ 0 ≤ s.2.2 ∧ s.2.2 < b ∧ val s.2.1 * b + s.2.2 * BB ^ s.1 = val (limbs a) - pre (limbs a) s.1)
    (fun s => [(0, .ct (natC a)), (1, .ct (intC b)), (6, .own 0), (7, .ct (intC s.2.2)), (8, .ct (intC ((s.1 : Int) - 1)))])
    (fun s => [(0, .row 3 1 (ints s.2.1))]) (fun s => s.1) ((limbs a).length, List.replicate (limbs a).length 0, 0) ⟨Nat.le_refl _, by simp, OKL.zeros _, ?_, Int.le_refl _, hb, ?_⟩ (by exact QX J ⟨rfl, rfl, rfl, rfl, rfl, trivial⟩) ?_
  · intro j _; simp [List.getD_eq_getElem?_getD, List.getElem?_replicate]; split <;> rfl
  · dsimp only; rw [YU, ZY (Nat.le_refl _)]; simp
  rintro ⟨q, zs, rest⟩ ⟨hq, hzl, hok, hz, hr0, hr1, hv⟩
  dsimp only at hq hzl hok hz hr0 hr1 hv ⊢; refine Qw (Qw (Qx fun K hK => ?_)); refine Qq J J J (Qk igeq J J J J (Qj (hK _ _ ?_))); refine Qz (Q2 J (fun h => ?_) (fun h => ?_))
  · obtain ⟨i, rfl⟩ : ∃ i, q = i + 1 := ⟨q - 1, by omega⟩
    have e1 : (((i + 1 : Nat) : Int) - 1) = (i : Int) := by omega
    have e2 : (i : Int).toNat = i := Int.toNat_natCast i
    have e3 : (i : Int).toNat * 1 = i := by omega
    have bx := (X2 a).get i; simp only [BB] at bx; rw [e1]; refine Q1 (Qz (Qw (Q5 (Qw (Qx fun K hK => ?_))))); refine Qq J J J (Qk (ishl30 (by omega) (by omega)) J J J J ?_); refine Qq J J J (Qq J J J (Qh J J J sNat (by omega) (X9 (by omega) (by omega)) J ?_))
    refine XQ J J J lInt J ?_
    rw [e2]
    refine Qk (ior30 (by omega) (by omega) (by omega) (by omega)) J J J J ?_
    refine Qv J J J (Qj (hK _ _ ?_)); refine Qz (Xw mixed 9 (.p 0 (.p 1 (.p 2 (.p 3 (.p 4 (.p 5 (.p 6 (.p 7 (.p 8 (.a 9 (.p 10 .done))))))))))) (by kernel_rfl) (fun K hK => ?_)); refine Qq J J J (Qq J J J (Qq J J J (Qq J J J (Qk (iquo (by omega) (by omega) (by omega)) J J J J ?_)))); refine Qq J J J (Qq J J J (Qk (irem (by omega) (by omega)) J J J J ?_)); skip
    refine Xu (limbs a).length J J J (by simp; omega) J sNat (by omega) (by omega) J ?_
    rw [e3]
    refine XY J J J J J zInt (by simp [Ent.cs]; omega) ?_
    simp only [Ent.setc, Z8]; refine Qv J J J (Qj (hK _ _ ?_)); refine Qz (Qx fun K hK => ?_); refine Qq J J J (Qk (isub (by omega) (by omega)) J J J J ?_); refine Qv J J J (Qj (hK _ _ ?_))
    refine Q4 ?_
    have d1 : 0 ≤ (rest * 1073741824 + (limbs a).getD i 0) / b := Int.ediv_nonneg (by omega) (by omega)
    have d2 : (rest * 1073741824 + (limbs a).getD i 0) / b < 1073741824 := by
      apply Int.ediv_lt_of_lt_mul hb
      have : (rest + 1) * 1073741824 ≤ b * 1073741824 := Int.mul_le_mul_of_nonneg_right (by omega) (by decide); rw [Int.mul_comm 1073741824 b]; omega
    have d3 := Int.emod_nonneg (rest * 1073741824 + (limbs a).getD i 0) (b := b) (by omega); have d4 := Int.emod_lt_of_pos (rest * 1073741824 + (limbs a).getD i 0) hb; refine Q8 (i, zs.set i ((rest * 1073741824 + (limbs a).getD i 0) / b), (rest * 1073741824 + (limbs a).getD i 0) % b) (by dsimp only; omega) ⟨by dsimp only; omega, by simp [hzl], ?_, ?_, d3, d4, ?_⟩ (by exact QX J ⟨rfl, rfl, rfl, rfl, rfl, trivial⟩)
    all_goals dsimp only
    · exact hok.set _ (by simp only [BB]; omega)
    · intro j hj; rw [getD_set (by omega), if_neg (by omega)]; exact hz j (by omega)
    · rw [val_set (by omega), hz i (by omega), Int.sub_zero]; exact top_step hv
  · have hq0 : q = 0 := by omega
    subst hq0
    have e4 : val zs * b + rest = a := by rw [Z0, Xn] at hv; simpa using hv
    have e5 : (a : Int) / b = val zs ∧ (a : Int) % b = rest := by
      rw [← e4]; constructor
      · rw [Int.add_comm, Int.add_mul_ediv_right _ _ (by omega), Int.ediv_eq_zero_of_lt hr0 hr1]; omega
      · rw [Int.add_comm, Int.add_mul_emod_self_right, Int.emod_eq_of_lt hr0 hr1]
    rw [e5.1, e5.2]; refine Qs (Qz (Qw (Qx fun K hK => ?_))); refine Qq J J J (Zx 0 _ J (Zz _ _) noBor_sub (QW gotrim (trim_ok _ (by omega)) J J J J ?_)); rw [Zw hok]; refine Qq J J J (Qv J J J (Qv J J J (Qj (hK _ _ ?_)))); refine Qz (Q0 ?_); refine QU [_, _] rfl (Qu J (Qu J QQ)) J J
theorem gosmall : InGo Tryz.prog 175 := InGo.of Tryz.func175 (by kernel_rfl) (by kernel_rfl)
theorem ints_ones (xs : List Int) : ones (xs.map intC) = true := by
  induction xs with
  | nil => rfl
  | cons x xs ih => simp [ones, CT.one, Value.oneCell', ih]
theorem Clone_ok (xs : List Int) (hl : xs.length ≤ 1000000) : Ok Tryz.prog 172 [intsC xs] (intsC xs) := by
  refine Ok.enter Tryz.func172 J _ Tryz.ntmps172 J ?_
  intro S w; refine Qw (Qx fun K hK => ?_); refine Qv J J J (Qj (hK _ _ ?_)); refine Qz (Qw (Qw (Qx fun K hK => ?_))); refine Qq J J J (Ops.eqNil J J sNat.und J (fun b hb => ?_)); refine Qj (hK _ _ ?_); refine Qz (XZ J (fun h => ?_) (fun h => ?_))
  · have h0 := hb h
    have : xs = [] := by simpa using h0
    subst this; refine Qw (Qx fun K hK => ?_); refine Qv J J J (Qj (hK _ _ ?_)); refine Qz (Q0 (QZ ?_)); refine QU [_] rfl (AllRes.nilS 1 J QQ) J J
  · clear hb h; refine Q1 (Qz (Qw (Qx fun K hK => ?_))); refine Ops.lit0E 0 J J J sNat J J J (Qq J J J (Ops.append 0 (ints xs) J J J J sNat J ?_ (by simp; omega) (by simp; omega) ?_ J ?_))
    · rw [flat_one]; exact ints_ones xs
    · rw [flat_one]; rfl
    refine Qv J J J (Qj (hK _ _ ?_)); refine Qz (Q0 ?_); refine Z6 0 _ J (Zz _ _) noBor_sub (QU [_] rfl (Qu J QQ) J J)
theorem goClone : InGo Tryz.prog 172 := InGo.of Tryz.func172 (by kernel_rfl) (by kernel_rfl)
theorem natC_zero : natC 0 = intsC [] := by show intsC (limbs 0) = intsC []; rw [limbs_zero]
theorem Zb {b : Nat} (h0 : 0 < b) (h : b < 1073741824) : limbs b = [(b : Int)] := by
  rw [limbs_pos (by omega), Nat.mod_eq_of_lt h, Nat.div_eq_of_lt h, limbs_zero]
set_option maxHeartbeats 2000000 in
theorem DivMod_small (a b : Nat) (h0 : 0 < b) (hb : b < 1073741824) (hl : (limbs a).length ≤ 256) : Ok Tryz.prog 138 [natC a, natC b] (.fr (tupT [natC (a / b), natC (a % b), intC 0])) := by
  have hlb : (limbs b).length = 1 := by rw [Zb h0 hb]; rfl
  refine Ok.enter Tryz.func138 J _ Tryz.ntmps138 J ?_
  intro S w; refine Qw (Qx fun K hK => ?_); refine Qv J J J (Qv J J J (Qv J J J (Qj (hK _ _ ?_)))); refine Qz (Qw (Qx fun K hK => ?_)); refine Qq J J J (QW gotrim (trim_ok _ (by omega)) J J J J ?_); rw [trim_of_limbs]; refine Qv J J J (Qj (hK _ _ ?_)); refine Qz (Qw (Qx fun K hK => ?_)); refine Qq J J J (Qb J J sNat.und (List.length_map ..) J (Qv J J J (Qj (hK _ _ ?_)))); refine Qz (Qw (Q5 (Qw (Qx fun K hK => ?_)))); refine Qq J J J (Qk ieql J J J J (Qv J J J (Qj (hK _ _ ?_)))); refine Qz (Q2 J (fun h => ?_) (fun h => ?_))
  · omega
  clear h; refine Qw (Qx fun K hK => ?_); refine Qq J J J (Qq J J J (QW goCompare (Compare_ok a b (by omega) (by omega)) J J J J ?_)); refine Qk ilss J J J J (Qv J J J (Qj (hK _ _ ?_))); refine Qz (Q2 J (fun h => ?_) (fun h => ?_))
  · have hlt : a < b := by
      rw [Xt] at h; split at h
      · omega
      · split at h <;> omega
    refine Qw (Qx fun K hK => ?_); refine Qq J J J (QW goClone (Clone_ok _ (by omega)) J J J J ?_); refine Qv J J J (Qv J J J (Qv J J J (Qj (hK _ _ ?_)))); refine Qz (Q0 (Q3 (QZ ?_))); rw [Nat.div_eq_of_lt hlt, Nat.mod_eq_of_lt hlt, natC_zero]; refine QU [_, _, _] rfl (AllRes.nilS 1 J (Qu J (Qu J QQ))) J J
  clear h; refine Qw (Qx fun K hK => ?_); refine Qq J J J (Qk ieql J J J J (Qv J J J (Qj (hK _ _ ?_)))); refine Qz (Q2 J (fun h => ?_) (fun h => ?_))
  · have e0 : (limbs b).getD (0 : Int).toNat 0 = b := by rw [Zb h0 hb]; rfl
    refine Qw (Qx fun K hK => ?_); refine Qq J J J (Qq J J J (Qh J J J sNat (by omega) (X9 (by omega) (by omega)) J ?_))
    refine XQ J J J lInt J ?_
    rw [e0]
    refine QW gosmall (small_ok a b (by omega) (by simp only [BB]; omega) hl) J J J J ?_
    have e1 : ((a : Int) / (b : Int)).toNat = a / b := by rw [← Int.natCast_ediv, Int.toNat_natCast]
    rw [e1]; refine Qq J J J (Q9 J J J J (Q9 J J J J (Qv J J J (Qv J J J (Qj (hK _ _ ?_)))))); refine Qz (Qw (Qx fun K hK => ?_)); refine Qq J J J (Qq J J J (Zj J J sNat J J J (QW gotrim (trim_ok [(a : Int) % b] (by simp)) J J J J ?_)))
    have e2 : trimL [(a : Int) % b] = limbs (a % b) := by
      have hm := Nat.mod_lt a h0; rw [Zw (OKL.cons (by simp only [BB]; omega) OKL.nil)]; simp only [val]; congr 1
    rw [e2]; refine Qv J J J (Qv J J J (Qv J J J (Qj (hK _ _ ?_)))); refine Qz (Q0 (Q3 (QZ ?_))); refine QU [_, _, _] rfl (Qu J (Qu J (Qu J QQ))) J J
  · omega
theorem goDivMod : InGo Tryz.prog 138 := InGo.of Tryz.func138 (by kernel_rfl) (by kernel_rfl)
set_option maxHeartbeats 2000000 in
theorem Gcd_small (a b : Nat) (hb : b < 1073741824) (hl : (limbs a).length ≤ 256) : Ok Tryz.prog 137 [natC a, natC b] (natC (Nat.gcd a b)) := by
  have hlb : (limbs b).length ≤ 1 := XW (k := 1) (by omega)
  refine Ok.enter Tryz.func137 J _ Tryz.ntmps137 J ?_
  intro S w; refine Qw (Qx fun K hK => ?_); refine Qv J J J (Qj (hK _ _ ?_)); refine Qz (Qw (Qw (Qx fun K hK => ?_))); refine Qq J J J (QW goClone (Clone_ok _ (by omega)) J J J J ?_); refine Qq J J J (QW goClone (Clone_ok _ (by omega)) J J J J ?_); refine Qv J J J (Qv J J J (Qj (hK _ _ ?_))); refine Qz (Q5 ?_)
  refine Xx (α := Nat × Nat) (fun s => s.2 < 1073741824 ∧ (limbs s.1).length ≤ 256 ∧ Nat.gcd s.1 s.2 = Nat.gcd a b)
    (fun s => [(0, .ct (natC s.1)), (1, .ct (natC s.2))]) (fun _ => []) (fun s => s.2) (a, b) ⟨hb, hl, rfl⟩ (by exact QX J ⟨rfl, rfl, trivial⟩) ?_
  rintro ⟨p, q⟩ ⟨hq, hp, hg⟩
  dsimp only at hq hp hg ⊢; refine Qw (Qw (Qx fun K hK => ?_)); refine Qq J J J (Qb J J sNat.und (List.length_map ..) J (Qk igtr J J J J (Qj (hK _ _ ?_)))); refine Qz (Q2 J (fun h => ?_) (fun h => ?_))
  · have hq0 : 0 < q := by
      rcases Nat.eq_zero_or_pos q with h0 | h0
      · subst h0; rw [limbs_zero] at h; simp at h
      · exact h0
    refine Q1 (Qz (Q5 (Qw (Qx fun K hK => ?_)))); refine Qq J J J (Qq J J J (QW goDivMod (DivMod_small p q hq0 hq hp) J J J J (Qq J J J (Q9 J J J J (Q9 J J J J (Q9 J J J J (Qv J J J (Qv J J J (Qv J J J (Qj (hK _ _ ?_))))))))))); refine Qz (Qw (Qw (Qx fun K hK => ?_))); refine Qq J J J (Qk ineq J J J J (Qj (hK _ _ ?_))); refine Qz (Xv J (Q1 (Qz (Qx fun K hK => ?_)))); refine Qq J J J (Qq J J J (Qv J J J (Qv J J J (Qj (hK _ _ ?_))))); refine Qd (Q4 ?_); have hm := Nat.mod_lt p hq0; refine Q8 (q, p % q) hm ⟨by dsimp only; omega, ?_, ?_⟩ (by exact QX J ⟨rfl, rfl, trivial⟩)
    · have := XW (n := q) (k := 1) (by omega); dsimp only; omega
    · dsimp only; rw [← hg, Nat.gcd_comm, ← Nat.gcd_rec, Nat.gcd_comm]
  · have hq0 : q = 0 := Zl (List.eq_nil_of_length_eq_zero (by omega))
    have e : p = Nat.gcd a b := by rw [← hg, hq0, Nat.gcd_zero_right]
    rw [← e]; refine Qs (Qz (Qw (Qx fun K hK => ?_))); refine Qq J J J (Qv J J J (Qj (hK _ _ ?_))); refine Qz (Q0 ?_); refine QU [_] rfl (Qu J QQ) J J
theorem goGcd : InGo Tryz.prog 137 := InGo.of Tryz.func137 (by kernel_rfl) (by kernel_rfl)
end Go.Proofs.YtlkdkbdgnjcopaaGreat
namespace Go.Proofs.YtlkdkbdgnjcopaaGreat
open Go.Own Go.Limbs
theorem uBool : Tryz.prog.underlying 4 = some .bool := Tryz.underlying4
theorem zvFrac : (Tryz.prog.info? 53).map (·.zero) = some (some (.agg #[.bool false, .slice none 0 0, .slice none 0 0])) := by kernel_rfl
theorem fF0 : fldInfo Tryz.prog 53 0 = some (0, some 1) := by kernel_rfl
theorem fF1 : fldInfo Tryz.prog 53 1 = some (1, some 1) := by kernel_rfl
theorem fF2 : fldInfo Tryz.prog 53 2 = some (2, some 1) := by kernel_rfl
theorem Xa : LdN Tryz.prog 53 3 := LdN.of _ Tryz.underlying53 rfl (by kernel_rfl)
theorem szFrac : (Tryz.prog.info? 53).map (·.size) = some 3 := by kernel_rfl
theorem Za : bInfo Tryz.prog 53 = some (.agg #[.bool false, .slice none 0 0, .slice none 0 0], [(0, some 1), (1, some 1), (2, some 1)]) := by kernel_rfl
structure Fr where
  neg : Bool
  num : Nat
  den : Nat
abbrev frCs (f : Fr) : List CT := [boolC f.neg, natC f.num, natC f.den]
abbrev fracC (f : Fr) : CT := .fr (aggT (frCs f))
abbrev fracsC (fs : List Fr) : CT := .fr (sliceT 3 (fs.map frCs))
abbrev frac0 : CT := .fr (aggT [boolC false, .ex (.slice none 0 0), .ex (.slice none 0 0)])
attribute [local irreducible] Go.Own.Fin Ok Ops St
theorem limbs_len_pos {n : Nat} : 0 < (limbs n).length ↔ n ≠ 0 := by
  constructor
  · intro h h0; subst h0; rw [limbs_zero] at h; simp at h
  · intro h; rw [limbs_pos h]; simp
theorem limbs_len_posI {n : Nat} : decide ((limbs n).length > (0 : Int)) = decide (n ≠ 0) := by
  rw [decide_eq_decide, ← limbs_len_pos]; omega
theorem goAdd : InGo Tryz.prog 140 := InGo.of Tryz.func140 (by kernel_rfl) (by kernel_rfl)
set_option maxHeartbeats 2000000 in
theorem magnitude_ok (n : Int) (h1 : -9223372036854775808 ≤ n) (h2 : n ≤ 9223372036854775807) : Ok Tryz.prog 101 [intC n] (natC n.natAbs) := by
  refine Ok.enter Tryz.func101 rfl _ Tryz.ntmps101 rfl ?_
  intro S w
  (refine Qw (Qx fun K hK => ?_); refine Qv rfl rfl rfl ?_; refine Qj (hK _ _ (Qz (Qw (Qw ?_)))); clear hK K; refine Qx (fun K hK => ?_); refine Qq rfl rfl rfl ?_; refine Qk ineq rfl rfl rfl rfl ?_; refine Qj (hK _ _ (Qz ?_)); clear hK K)
  refine Q2 rfl (fun h => ?_) (fun h => ?_)
  · (refine Qw (Qx fun K hK => ?_); refine Qq rfl rfl rfl ?_; refine Qq rfl rfl rfl ?_)
    refine Ops.ineg rfl rfl (by omega) (by omega) rfl ?_
    (refine Ops.max2 rfl rfl rfl rfl ?_; refine Qv rfl rfl rfl ?_; refine Qj (hK _ _ (Qz (Qw ?_))); clear hK K; refine Qx (fun K hK => ?_); refine Qq rfl rfl rfl ?_)
    rw [show max n (-n) = (n.natAbs : Int) by omega]
    refine QW goFrom (From_ok n.natAbs (by omega)) rfl rfl rfl rfl ?_
    (refine Qq rfl rfl rfl ?_; refine Q9 rfl rfl rfl rfl ?_; refine Q9 rfl rfl rfl rfl ?_; refine Qv rfl rfl rfl ?_; refine Qv rfl rfl rfl ?_; refine Qj (hK _ _ (Qz (Qw ?_))); clear hK K; refine Qx (fun K hK => ?_); refine Qq rfl rfl rfl ?_; refine Qv rfl rfl rfl ?_; refine Qj (hK _ _ (Qz (Q0 (QZ ?_)))); clear hK K)
    refine QU [_] rfl (Qu rfl QQ) rfl rfl
  · (refine Q1 (Qz (Qw (Qx fun K hK => ?_))))
    refine QW goFrom (From_ok 4611686018427387904 (by omega)) rfl rfl rfl rfl ?_
    (refine Qq rfl rfl rfl ?_; refine Q9 rfl rfl rfl rfl ?_; refine Q9 rfl rfl rfl rfl ?_; refine Qv rfl rfl rfl ?_; refine Qv rfl rfl rfl ?_; refine Qj (hK _ _ (Qz (Qw ?_))); clear hK K; refine Qx (fun K hK => ?_); refine Qq rfl rfl rfl ?_; refine Qq rfl rfl rfl ?_)
    refine QW goAdd (Add_list _ _ ?_ ?_ (X2 _) (X2 _)) rfl rfl rfl rfl ?_
    · exact Nat.le_trans (XW (k := 3) (by decide)) (by decide)
    · exact Nat.le_trans (XW (k := 3) (by decide)) (by decide)
    rw [Xn]
    (refine Qq rfl rfl rfl ?_; refine Q9 rfl rfl rfl rfl ?_; refine Q9 rfl rfl rfl rfl ?_; refine Qv rfl rfl rfl ?_; refine Qv rfl rfl rfl ?_; refine Qj (hK _ _ (Qz (Qw ?_))); clear hK K; refine Qx (fun K hK => ?_); refine Qq rfl rfl rfl ?_; refine Qv rfl rfl rfl ?_; refine Qj (hK _ _ (Qz (Q0 ?_))); clear hK K)
    refine QU [_] rfl (Qu rfl QQ) (by congr 1; have : n.natAbs = 9223372036854775808 := by omega
                                      rw [this]; rfl) rfl
theorem gomagnitude : InGo Tryz.prog 101 := InGo.of Tryz.func101 (by kernel_rfl) (by kernel_rfl)
def sumN (n1 : Bool) (a : Nat) (n2 : Bool) (b : Nat) : Nat := if n1 = n2 then a + b else if a < b then b - a else a - b
def sumS (n1 : Bool) (a : Nat) (n2 : Bool) (b : Nat) : Bool := if n1 = n2 then n1 else if a < b then n2 else n1
def redF (neg : Bool) (a b : Nat) : Fr := ⟨neg && decide (a / Nat.gcd a b ≠ 0), a / Nat.gcd a b, b / Nat.gcd a b⟩
set_option maxHeartbeats 2000000 in
theorem reduced_small (neg : Bool) (a b : Nat) (h0 : 0 < b) (hb : b < 1073741824) (hl : (limbs a).length ≤ 256) : Ok Tryz.prog 100 [boolC neg, natC a, natC b] (fracC (redF neg a b)) := by
  have hg0 : 0 < Nat.gcd a b := Nat.gcd_pos_of_pos_right _ h0; have hg1 : Nat.gcd a b ≤ b := Nat.gcd_le_right _ h0; have hlb : (limbs b).length ≤ 1 := XW (k := 1) (by omega)
  refine Ok.enter Tryz.func100 J _ Tryz.ntmps100 J ?_
  intro S w; have e0 : redF neg a b = ⟨neg && decide (a / Nat.gcd a b ≠ 0), a / Nat.gcd a b, b / Nat.gcd a b⟩ := rfl; rw [e0]; clear e0; have h1 := Gcd_small a b hb hl; generalize Nat.gcd a b = g at *; refine Qw (Qx fun K hK => ?_); refine Qg 0 J J zvFrac J J J (Qj (hK _ _ (Qz (Qw ?_)))); clear hK K; refine Qx (fun K hK => ?_); refine Qq J J J (Qq J J J (QW goGcd h1 J J J J (Qv J J J (Qj (hK _ _ (Qz (Qw ?_))))))); clear hK K; refine Qx (fun K hK => ?_); refine Qq J J J (Qq J J J (QW goDivMod (DivMod_small a g hg0 (by omega) hl) J J J J ?_)); refine Qq J J J (Q9 J J J J (Q9 J J J J (Q9 J J J J (Qv J J J (Qv J J J (Qv J J J (Qj (hK _ _ (Qz (Qw ?_)))))))))); clear hK K; refine Qx (fun K hK => ?_); refine Qq J J J (Qq J J J (QW goDivMod (DivMod_small b g hg0 (by omega) (by omega)) J J J J ?_)); refine Qq J J J (Q9 J J J J (Q9 J J J J (Q9 J J J J (Qv J J J (Qv J J J (Qv J J J (Qj (hK _ _ (Qz (Qw ?_)))))))))); clear hK K; refine Qx (fun K hK => ?_); refine Qq J J J (Qq J J J (X3 32 J (fun h => ?_) (fun h => ?_)))
  · refine Qq J J J (Qb J J sNat.und (List.length_map ..) J (Qk igtr J J J J (QJ J J J J (Qq J J J (Qq J J J (Qi J Za J (.one J J J J (.one J J J J (.one J J J J .nil))) J (Qa 3 J J J J J szFrac J J (Qj (hK _ _ (Qz (Q0 ?_))))))))))); clear hK K; refine QU [_] rfl (Qc (n := 3) J J Xa J QQ) (by rw [← limbs_len_posI, h]; rfl) J
  · refine Qy J J J (Qy J J J (Qy J J J (QK J J J J (Qq J J J (Qq J J J (Qi J Za J (.one J J J J (.one J J J J (.one J J J J .nil))) J (Qa 3 J J J J J szFrac J J (Qj (hK _ _ (Qz (Q0 ?_))))))))))); clear hK K; refine QU [_] rfl (Qc (n := 3) J J Xa J QQ) (by rw [h]; rfl) J
theorem goreduced : InGo Tryz.prog 100 := InGo.of Tryz.func100 (by kernel_rfl) (by kernel_rfl)
end Go.Proofs.YtlkdkbdgnjcopaaGreat
namespace Go.Proofs.YtlkdkbdgnjcopaaGreat
open Go.Own Go.Limbs
def sg (n : Bool) (a : Nat) : Int := if n then -(a : Int) else a
def ofQ (q : Rat) : Fr := ⟨decide (q.num < 0), q.num.natAbs, q.den⟩
abbrev ratC (q : Rat) : CT := fracC (ofQ q)
theorem natAbs_sg (n : Bool) (a : Nat) : (sg n a).natAbs = a := by unfold sg; split <;> omega
theorem redF_q (n : Bool) (a b : Nat) (hb : 0 < b) : redF n a b = ofQ (mkRat (sg n a) b) := by
  have hb' : b ≠ 0 := by omega
  have hg : 0 < Nat.gcd a b := Nat.gcd_pos_of_pos_right _ hb; rw [Rat.mkRat_def, dif_neg hb', Rat.normalize_eq]; unfold redF ofQ; simp only [natAbs_sg]; have hd : (Nat.gcd a b : Int) ∣ (a : Int) := Int.natCast_dvd_natCast.mpr (Nat.gcd_dvd_left a b)
  have e1 : (sg n a / (Nat.gcd a b : Int)) = sg n (a / Nat.gcd a b) := by
    unfold sg; split
    · rw [Int.neg_ediv_of_dvd hd, Int.natCast_ediv]
    · rw [Int.natCast_ediv]
  rw [e1, natAbs_sg]
  congr 1
  generalize a / Nat.gcd a b = c; unfold sg; cases n
  · simp
  · show (true && decide (c ≠ 0)) = decide (-(c : Int) < 0); rw [Bool.true_and, decide_eq_decide]; omega
theorem from_redF (n d : Int) (hd : d ≠ 0) : redF (decide (n < 0) != decide (d < 0)) n.natAbs d.natAbs = ofQ (Rat.divInt n d) := by
  rw [redF_q _ _ _ (by omega)]
  congr 1
  have e : sg (decide (n < 0) != decide (d < 0)) n.natAbs = if d < 0 then -n else n := by
    unfold sg
    by_cases h1 : n < 0 <;> by_cases h2 : d < 0 <;> simp [h1, h2] <;> omega
  rw [e]; rcases d with d | d
  · rw [if_neg (by simp)]; rfl
  · rw [if_pos (by omega)]; show mkRat (-n) (d + 1) = Rat.normalize (-n) (d + 1) (by omega); rw [Rat.normalize_eq_mkRat]
attribute [local irreducible] Go.Own.Fin Ok Ops St
def Sz (a : Nat) : Prop := (limbs a).length ≤ 30
theorem dne (p q : Bool) : decide (p ≠ q) = (p != q) := by cases p <;> cases q <;> rfl
set_option maxHeartbeats 2000000 in
theorem FFrom_ok (n d : Int) (h1 : -9223372036854775808 ≤ n) (h2 : n ≤ 9223372036854775807) (h3 : -1073741824 < d) (h4 : d < 1073741824) (h0 : d ≠ 0) : Ok Tryz.prog 54 [intC n, intC d] (.fr (tupT [ratC (Rat.divInt n d), intC 0])) := by
  have hl : (limbs n.natAbs).length ≤ 3 := XW (k := 3) (by omega); rw [show ratC (Rat.divInt n d) = fracC (redF (decide (n < 0) != decide (d < 0)) n.natAbs d.natAbs) from by rw [from_redF n d h0]]
  refine Ok.enter Tryz.func54 J _ Tryz.ntmps54 J ?_
  intro S w; refine Qw (Qx fun K hK => ?_); refine Qg 0 J J zvFrac J J J (Qv J J J (Qj (hK _ _ (Qz (Qw (Qw ?_)))))); clear hK K; refine Qx (fun K hK => ?_); refine Qq J J J (Qk ieql J J J J (Qj (hK _ _ (Qz ?_)))); clear hK K; refine Q2 J (fun h => absurd h h0) (fun h => ?_); refine Q1 (Qz (Qw (Qx fun K hK => ?_))); refine Qq J J J (Qk ilss J J J J (Qq J J J (Qk ilss J J J J (Ops.bne J J J uBool J ?_)))); rw [dne]; refine Qq J J J (QW gomagnitude (magnitude_ok n h1 h2) J J J J (Qq J J J (QW gomagnitude (magnitude_ok d (by omega) (by omega)) J J J J ?_)))
  refine QW goreduced (reduced_small _ n.natAbs d.natAbs (by omega) (by omega) (by omega)) J J J J ?_
  refine Qa 3 J J J J J szFrac J J (Qv J J J (Qj (hK _ _ (Qz (Q0 ?_))))); clear hK K; refine QU [_, _] rfl (Qc (n := 3) J J Xa J (Qu J QQ)) J J
theorem goFFrom : InGo Tryz.prog 54 := InGo.of Tryz.func54 (by kernel_rfl) (by kernel_rfl)
theorem rOrder_ok (x y : Int) : Ok Tryz.prog 171 [intC x, intC y] (intC (cmpI x y)) := by
  refine Ok.enter Tryz.func171 J _ Tryz.ntmps171 J ?_
  intro S w; refine Qw (Qx fun K hK => ?_); refine Qv J J J (Qj (hK _ _ (Qz (Qw (Qw ?_))))); clear hK K; refine Qx (fun K hK => ?_); refine Qq J J J (Qq J J J (Qk ilss J J J J (Qj (hK _ _ (Qz ?_))))); clear hK K; refine Q2 J (fun h => ?_) (fun h => ?_)
  · refine Qw (Qx fun K hK => ?_); refine Qv J J J (Qj (hK _ _ (Qz (Q0 (QZ ?_))))); clear hK K; refine QU [_] rfl (Qu J QQ) (by rw [Xt, if_pos h]; rfl) J
  · refine Q1 (Qz (Qw (Qw (Qx fun K hK => ?_)))); refine Qq J J J (Qq J J J (Qk igtr J J J J (Qj (hK _ _ (Qz ?_))))); clear hK K; refine Q2 J (fun h2 => ?_) (fun h2 => ?_)
    · refine Qw (Qx fun K hK => ?_); refine Qv J J J (Qj (hK _ _ (Qz (Q0 (QZ ?_))))); clear hK K; refine QU [_] rfl (Qu J QQ) (by rw [Xt, if_neg h, if_pos h2]; rfl) J
    · refine Q1 (Qz (Qw (Qx fun K hK => ?_))); refine Qv J J J (Qj (hK _ _ (Qz (Q0 ?_)))); clear hK K; refine QU [_] rfl (Qu J QQ) (by rw [Xt, if_neg h, if_neg h2]; rfl) J
theorem gorOrder : InGo Tryz.prog 171 := InGo.of Tryz.func171 (by kernel_rfl) (by kernel_rfl)
theorem rTrim_ok (xs : List Int) (hl : xs.length < 4611686018427387904) : Ok Tryz.prog 136 [intsC xs] (intsC (trimL xs)) := by
  refine Ok.enter Tryz.func136 J _ Tryz.ntmps136 J ?_
  intro S w; refine Qw (Qx fun K hK => ?_); refine Qv J J J (Qj (hK _ _ (Qz (Qw (Q5 ?_))))); clear hK K
  refine Xx (α := List Int) (fun ys => trimL ys = trimL xs ∧ ys.length ≤ xs.length) (fun ys => [(0, .ct (intsC ys))]) (fun _ => []) (fun ys => ys.length) xs ⟨rfl, Nat.le_refl _⟩ (Entails.sub ⟨rfl, trivial⟩) ?_
  intro ys ⟨hy, hle⟩; refine Qw (Qw (Qx fun K hK => ?_)); refine Qq J J J (Qb J J sNat.und (List.length_map ..) J (Qk igtr J J J J (Qq J J J (Q7 6 J (fun h => ?_) (fun h => ?_)))))
  · have e1 : ((ys.length : Int) - 1).toNat = ys.length - 1 := by omega
    refine Qq J J J (Qq J J J (Qb J J sNat.und (List.length_map ..) J (Qk (isub (by omega) (by omega)) J J J J ?_)))
    refine Qh J J J sNat (by omega) (X9 (by omega) (by omega)) J ?_
    refine XQ J J J lInt J (Qk ieql J J J J (QJ J J J J (Qj (hK _ _ (Qz ?_))))); clear hK K; refine Q2 J (fun h2 => ?_) (fun h2 => ?_)
    · rw [e1] at h2; refine Q1 (Qz (Q5 (Qx fun K hK => ?_))); refine Qq J J J (Qq J J J (Qb J J sNat.und (List.length_map ..) J (Qk (isub (by omega) (by omega)) J J J J ?_)))
      refine Ops.cutHi J J J sNat (by omega) (by simp) J ?_
      rw [← List.map_take]; refine Qv J J J (Qj (hK _ _ (Qd (Q4 ?_)))); clear hK K; refine Q8 (ys.take ((ys.length : Int) - 1).toNat) (by simp; omega) ⟨?_, by simp; omega⟩ (Entails.sub ⟨rfl, trivial⟩); rw [e1, ← hy]; exact trim_last (by omega) h2
    · rw [e1] at h2; refine Qs (Qz (Qw (Qx fun K hK => ?_))); refine Qq J J J (Qv J J J (Qj (hK _ _ (Qz (Q0 ?_))))); clear hK K; refine QU [_] rfl (Qu J QQ) (by rw [← hy, trim_done (fun _ => h2)]; rfl) J
  · refine Qy J J J (Qy J J J (Qy J J J (Qy J J J (Qy J J J (Qy J J J (Qy J J J (QK J J J J (Qj (hK _ _ (Qz (Xv J (Qs (Qz (Qw ?_)))))))))))))); clear hK K; refine Qx (fun K hK => ?_); refine Qq J J J (Qv J J J (Qj (hK _ _ (Qz (Q0 ?_))))); clear hK K; refine QU [_] rfl (Qu J QQ) (by rw [← hy, trim_done (fun h3 => absurd h3 (by omega))]; rfl) J
theorem gorTrim : InGo Tryz.prog 136 := InGo.of Tryz.func136 (by kernel_rfl) (by kernel_rfl)
set_option maxHeartbeats 2000000 in
theorem rCompare_ok (a b : Nat) (ha : (limbs a).length < 4611686018427387904) (hb : (limbs b).length < 4611686018427387904) : Ok Tryz.prog 133 [natC a, natC b] (intC (cmpI a b)) := by
  refine Ok.enter Tryz.func133 J _ Tryz.ntmps133 J ?_
  intro S w; refine Qw (Qx fun K hK => ?_); refine Qv J J J (Qj (hK _ _ (Qz (Qw (Qw ?_))))); clear hK K; refine Qx (fun K hK => ?_); refine Qq J J J (Qb J J sNat.und (List.length_map ..) J (Qq J J J (Qb J J sNat.und (List.length_map ..) J (Qk ineq J J J J (Qj (hK _ _ (Qz ?_))))))); clear hK K; refine Q2 J (fun h => ?_) (fun h => ?_)
  · have e : cmpI ((limbs a).length : Int) ((limbs b).length : Int) = cmpI (a : Int) (b : Int) := by
      rcases Nat.lt_trichotomy (limbs a).length (limbs b).length with h1 | h1 | h1
      · have := lt_of_len h1; rw [Xt, Xt, if_pos (by omega), if_pos (by omega)]
      · omega
      · have := lt_of_len h1; rw [Xt, Xt, if_neg (by omega), if_pos (by omega), if_neg (by omega), if_pos (by omega)]
    refine Qw (Qx fun K hK => ?_); refine Qq J J J (Qb J J sNat.und (List.length_map ..) J (Qq J J J (Qb J J sNat.und (List.length_map ..) J (QW gorOrder (rOrder_ok _ _) J J J J (Qv J J J (Qj (hK _ _ (Qz (Q0 (QZ ?_)))))))))); clear hK K; refine QU [_] rfl (Qu J QQ) (by rw [← e]; rfl) J
  · have hl : (limbs a).length = (limbs b).length := by omega
    clear h; refine Q1 (Qz (Qw (Qw (Qx fun K hK => ?_)))); refine Qq J J J (Qb J J sNat.und (List.length_map ..) J (Qk (isub (by omega) (by omega)) J J J J ?_)); refine Qv J J J (Qj (hK _ _ (Qz (Q5 ?_)))); clear hK K
    refine Xx (α := Nat) (fun k => k ≤ (limbs a).length ∧ pre (limbs a) k - pre (limbs b) k = (a : Int) - b)
      (fun k => [(0, .ct (natC a)), (1, .ct (natC b)), (5, .ct (intC ((k : Int) - 1)))]) (fun _ => []) (fun k => k) (limbs a).length ⟨Nat.le_refl _, ?_⟩ (by exact QX J ⟨rfl, rfl, rfl, trivial⟩) ?_
    · have e1 := val_eq_pre a; have e2 := val_eq_pre b; rw [← hl] at e2; rw [e1, e2]
    intro k ⟨hk, hv⟩; dsimp only; refine Qw (Qw (Qx fun K hK => ?_)); refine Qq J J J (Qk igeq J J J J (Qj (hK _ _ (Qz ?_)))); clear hK K; refine Q2 J (fun h => ?_) (fun h => ?_)
    · obtain ⟨q, rfl⟩ : ∃ q, k = q + 1 := ⟨k - 1, by omega⟩
      have e1 : (((q + 1 : Nat) : Int) - 1) = (q : Int) := by omega
      have e2 : (q : Int).toNat = q := Int.toNat_natCast q; rw [e1]; refine Q1 (Qz (Qw (Q5 (Qw ?_)))); refine Xw mixed 9 (.p 0 (.p 1 (.p 2 (.p 4 (.p 5 (.p 6 (.f 3 (.f 7 (.p 8 .done))))))))) (by kernel_rfl) (fun K hK => ?_); refine Qq J J J (Qq J J J (Qh J J J sNat (by omega) (X9 (by omega) (by omega)) J ?_)); refine Qq J J J (Qq J J J (Qh J J J sNat (by omega) (X9 (by omega) (by omega)) J ?_)); refine XQ J J J lInt J (XQ J J J lInt J (Qk ineq J J J J (Qj (hK _ _ (Qz ?_))))); clear hK K; refine Q2 J (fun h2 => ?_) (fun h2 => ?_)
      · rw [e2] at h2
        have e : cmpI ((limbs a).getD q 0) ((limbs b).getD q 0) = cmpI (a : Int) (b : Int) := by
          rcases Int.lt_or_gt_of_ne h2 with h3 | h3
          · have := pre_decides (X2 a) (X2 b) h3; rw [Xt, Xt, if_pos h3, if_pos (by omega)]
          · have := pre_decides (X2 b) (X2 a) h3; rw [Xt, Xt, if_neg (by omega), if_pos h3, if_neg (by omega), if_pos (by omega)]
        refine Qw (Xw mixed 10 (.p 0 (.p 1 (.p 2 (.p 4 (.p 5 (.p 6 (.f 3 (.f 7 (.m 8 (.p 9 .done)))))))))) (by kernel_rfl) (fun K hK => ?_)); refine Qq J J J (Qq J J J (Qh J J J sNat (by omega) (X9 (by omega) (by omega)) J ?_)); refine Qq J J J (Qq J J J (Qh J J J sNat (by omega) (X9 (by omega) (by omega)) J ?_)); refine XQ J J J lInt J (XQ J J J lInt J (QW gorOrder (rOrder_ok _ _) J J J J ?_)); rw [e2]; refine Qv J J J (Qj (hK _ _ (Qz (Q0 (Q3 (QZ (QZ (Q3 (QZ ?_))))))))); clear hK K; refine QU [_] rfl (Qu J QQ) (by rw [← e]; rfl) J
      · rw [e2] at h2; refine Q1 (Qz (Qx fun K hK => ?_)); refine Qq J J J (Qk (isub (by omega) (by omega)) J J J J ?_); refine Qv J J J (Qj (hK _ _ (Q4 ?_))); clear hK K; refine Q8 q (by omega) ⟨by omega, ?_⟩ (by exact QX J ⟨rfl, rfl, rfl, trivial⟩); rw [X4, X4] at hv; have : (limbs a).getD q 0 = (limbs b).getD q 0 := Classical.not_not.1 h2; rw [this] at hv; omega
    · have hk0 : k = 0 := by omega
      subst hk0; rw [Z0, Z0] at hv; refine Qs (Qz (Qw (Qx fun K hK => ?_))); refine Qv J J J (Qj (hK _ _ (Qz (Q0 ?_)))); clear hK K; refine QU [_] rfl (Qu J QQ) (by rw [Xt, if_neg (by omega), if_neg (by omega)]; rfl) J
theorem gorCompare : InGo Tryz.prog 133 := InGo.of Tryz.func133 (by kernel_rfl) (by kernel_rfl)
theorem Y8 (xs : List Int) (i : Nat) : Ok Tryz.prog 170 [intsC xs, intC i] (intC (xs.getD i 0)) := by
  refine Ok.enter Tryz.func170 J _ Tryz.ntmps170 J ?_
  intro S w; refine Qw (Qx fun K hK => ?_); refine Qv J J J (Qj (hK _ _ (Qz (Qw (Qw ?_))))); clear hK K; refine Qx (fun K hK => ?_); refine Qq J J J (Qq J J J (Qb J J sNat.und (List.length_map ..) J (Qk ilss J J J J (Qj (hK _ _ (Qz ?_)))))); clear hK K; refine Q2 J (fun h => ?_) (fun h => ?_)
  · have e2 : (i : Int).toNat = i := Int.toNat_natCast i; refine Qw (Qx fun K hK => ?_); refine Qq J J J (Qq J J J (Qh J J J sNat (by omega) (X9 (by omega) (by omega)) J ?_)); refine XQ J J J lInt J (Qv J J J (Qj (hK _ _ (Qz (Q0 (QZ ?_)))))); clear hK K; rw [e2]; skip; refine QU [_] rfl (Qu J QQ) J J
  · refine Q1 (Qz (Qw (Qx fun K hK => ?_))); refine Qv J J J (Qj (hK _ _ (Qz (Q0 ?_)))); clear hK K; refine QU [_] rfl (Qu J QQ) (by rw [List.getD_eq_getElem?_getD, List.getElem?_eq_none (by omega)]; rfl) J
theorem gorlimb : InGo Tryz.prog 170 := InGo.of Tryz.func170 (by kernel_rfl) (by kernel_rfl)
theorem limbs_top {n : Nat} (h : 0 < (limbs n).length) : (limbs n).getD ((limbs n).length - 1) 0 ≠ 0 := fun h0 => by
  have h1 := trim_last h h0
  rw [trim_of_limbs] at h1
  have h2 := trim_len ((limbs n).take ((limbs n).length - 1))
  rw [h1] at h2
  simp at h2; omega
theorem getD_past {xs : List Int} {i : Nat} (h : xs.length ≤ i) : xs.getD i 0 = 0 := by
  rw [List.getD_eq_getElem?_getD, List.getElem?_eq_none (by omega)]; rfl
set_option maxHeartbeats 2000000 in
theorem rPlus_ok (a b : Nat) (ha : (limbs a).length ≤ 1000000) (hb : (limbs b).length ≤ 1000000) : Ok Tryz.prog 131 [natC a, natC b] (natC (a + b)) := by
  refine Ok.enter Tryz.func131 J _ Tryz.ntmps131 J ?_
  intro S w; refine Qw (Qx fun K hK => ?_); refine Qv J J J (Qj (hK _ _ (Qz (Qw ?_)))); clear hK K; refine Qx (fun K hK => ?_); refine Qv J J J (Qj (hK _ _ (Qz (Qw ?_)))); clear hK K; refine Qx (fun K hK => ?_); refine Qv J J J (Qj (hK _ _ (Qz (Qw (Qw ?_))))); clear hK K; refine Qx (fun K hK => ?_); refine Qv J J J (Qj (hK _ _ (Qz (Q5 ?_)))); clear hK K
  refine Xg 5 0 3 1 J J J ?_
  skip
  refine Xx (α := Nat × List Int × Int) (fun s => s.2.1.length = s.1 ∧ OKL s.2.1 ∧ 0 ≤ s.2.2 ∧ s.2.2 ≤ 1 ∧ (s.1 ≤ max (limbs a).length (limbs b).length ∨ s.2.2 = 0) ∧ s.1 ≤ max (limbs a).length (limbs b).length + 1 ∧ val s.2.1 + s.2.2 * BB ^ s.1 = pre (limbs a) s.1 + pre (limbs b) s.1 ∧
      (max (limbs a).length (limbs b).length ≤ s.1 → s.2.2 = 0 → trimL s.2.1 = s.2.1))
    (fun s => [(0, .ct (natC a)), (1, .ct (natC b)), (5, .own 0), (6, .ct (intC s.2.2)), (7, .ct (intC s.1))]) (fun s => [(0, .row 3 1 (ints s.2.1))])
    (fun s => 2 * (max (limbs a).length (limbs b).length - s.1) + s.2.2.toNat) (0, [], 0) ⟨rfl, OKL.nil, by decide, by decide, .inr J, Nat.zero_le _, by simp [val, Z0], fun _ _ => rfl⟩ (by exact QX J ⟨rfl, rfl, rfl, rfl, rfl, trivial⟩) ?_
  rintro ⟨i, zs, c⟩ ⟨hz, hok, hc0, hc1, hor, hi, hv, ht⟩
  dsimp only at hz hok hc0 hc1 hor hi hv ht ⊢; have b1 := (X2 a).get i; have b2 := (X2 b).get i; have t1 := limbs_top (n := a); have t2 := limbs_top (n := b); have p1 := getD_past (xs := limbs a) (i := i); have p2 := getD_past (xs := limbs b) (i := i); simp only [BB] at b1 b2
  have step : ((i : Int) < (limbs a).length ∨ (i : Int) < (limbs b).length ∨ 0 < c) →
      (2 * (max (limbs a).length (limbs b).length - (i + 1)) + ((((limbs a).getD i 0 + (limbs b).getD i 0 + c) / 1073741824).toNat) < 2 * (max (limbs a).length (limbs b).length - i) + c.toNat) ∧
      ((zs ++ [((limbs a).getD i 0 + (limbs b).getD i 0 + c) % 1073741824]).length = i + 1 ∧ OKL (zs ++ [((limbs a).getD i 0 + (limbs b).getD i 0 + c) % 1073741824]) ∧ 0 ≤ ((limbs a).getD i 0 + (limbs b).getD i 0 + c) / 1073741824 ∧ ((limbs a).getD i 0 + (limbs b).getD i 0 + c) / 1073741824 ≤ 1 ∧ (i + 1 ≤ max (limbs a).length (limbs b).length ∨ ((limbs a).getD i 0 + (limbs b).getD i 0 + c) / 1073741824 = 0) ∧ i + 1 ≤ max (limbs a).length (limbs b).length + 1 ∧ val (zs ++ [((limbs a).getD i 0 + (limbs b).getD i 0 + c) % 1073741824]) + ((limbs a).getD i 0 + (limbs b).getD i 0 + c) / 1073741824 * BB ^ (i + 1) = pre (limbs a) (i + 1) + pre (limbs b) (i + 1) ∧
      (max (limbs a).length (limbs b).length ≤ i + 1 → ((limbs a).getD i 0 + (limbs b).getD i 0 + c) / 1073741824 = 0 → trimL (zs ++ [((limbs a).getD i 0 + (limbs b).getD i 0 + c) % 1073741824]) = zs ++ [((limbs a).getD i 0 + (limbs b).getD i 0 + c) % 1073741824])) := by
    intro hgo; refine ⟨by omega, by simp [hz], hok.append (OKL.cons (by simp only [BB]; omega) OKL.nil), by omega, by omega, by omega, by omega, ?_, ?_⟩
    · rw [YQ, hz, X4, X4]; have e := Int.mul_ediv_add_emod ((limbs a).getD i 0 + (limbs b).getD i 0 + c) 1073741824; clear t1 t2 p1 p2 ht hor hgo; simp only [val, BB] at *; generalize ((limbs a).getD i 0 + (limbs b).getD i 0 + c) / 1073741824 = q at *; generalize ((limbs a).getD i 0 + (limbs b).getD i 0 + c) % 1073741824 = m at *
      grind
    · intro hm hcz
      refine trim_id ?_
      have hx : (limbs a).getD i 0 + (limbs b).getD i 0 + c ≠ 0 := by
        rcases hgo with hg | hg | hg
        · rcases Nat.lt_or_ge (i + 1) (limbs a).length with h5 | h5
          · omega
          · have e5 : (limbs a).length - 1 = i := by omega
            rw [e5] at t1; have := t1 (by omega); omega
        · rcases Nat.lt_or_ge (i + 1) (limbs b).length with h5 | h5
          · omega
          · have e5 : (limbs b).length - 1 = i := by omega
            rw [e5] at t2; have := t2 (by omega); omega
        · omega
      omega
  have fin : ¬ ((i : Int) < (limbs a).length ∨ (i : Int) < (limbs b).length ∨ 0 < c) → natC (a + b) = intsC zs := by
    intro hgo
    have hc : c = 0 := by omega
    have h1 := ht (by omega) hc; rw [hc, Int.zero_mul, ZY (by omega), ZY (by omega), Xn, Xn] at hv; rw [show intsC zs = intsC (trimL zs) by rw [h1], Zw hok, show (val zs).toNat = a + b by omega]
  have e2 : (i : Int).toNat = i := Int.toNat_natCast i; clear ht hor t1 t2 p1 p2; refine Qw (Qw (Qx fun K hK => ?_)); refine Qq J J J (Qq J J J (Qb J J sNat.und (List.length_map ..) J (Qk ilss J J J J (Qq J J J (Q7 13 J (fun g1 => ?_) (fun g1 => ?_))))))
  · have st := step (.inl g1); clear step fin; refine Qy J J J (Qy J J J (Qy J J J (Qy J J J (QJ J J J J (Qq J J J (Qy J J J (Qy J J J (QJ J J J J (Qj (hK _ _ (Qz (Qp J (Q1 (Qz (Qw (Q5 (Qw ?_))))))))))))))))); clear hK K; refine Qx (fun K hK => ?_); refine Qq J J J (Qq J J J (QW gorlimb (Y8 (limbs a) i) J J J J (Qq J J J (Qq J J J (QW gorlimb (Y8 (limbs b) i) J J J J (Qk (iadd (by omega) (by omega)) J J J J ?_)))))); refine Qq J J J (Qk (iadd (by omega) (by omega)) J J J J ?_); refine Qv J J J (Qj (hK _ _ (Qz (Qw ?_)))); clear hK K; refine Qx (fun K hK => ?_); refine Qq J J J (Qq J J J (Qk (irem (by omega) (by omega)) J J J J ?_)); refine Zj J J sNat J J J (Qt zs.length (ints (zs ++ [((limbs a).getD i 0 + (limbs b).getD i 0 + c) % 1073741824])) J J J J sNat (by simp [ints]) J (by omega) (by omega) (by simp [ints]) J ?_); refine Qv J J J (Qj (hK _ _ (Qz ?_))); clear hK K; refine Qx (fun K hK => ?_); refine Qq J J J (Qk (iquo (by omega) (by omega) (by omega)) J J J J ?_); refine Qv J J J (Qj (hK _ _ (Qz ?_))); clear hK K; refine Qx (fun K hK => ?_); refine Qq J J J (Qk (iadd (by omega) (by omega)) J J J J ?_); refine Qv J J J (Qj (hK _ _ (Q4 ?_)))
    clear hK K; refine Q8 (i + 1, zs ++ [((limbs a).getD i 0 + (limbs b).getD i 0 + c) % 1073741824], ((limbs a).getD i 0 + (limbs b).getD i 0 + c) / 1073741824) st.1 st.2 (by exact QX J ⟨rfl, rfl, rfl, rfl, by simp only [Int.natCast_add]; rfl, trivial⟩)
  · refine Qq J J J (Qq J J J (Qb J J sNat.und (List.length_map ..) J (Qk ilss J J J J (QK J J J J (Qq J J J (Q7 19 J (fun g2 => ?_) (fun g2 => ?_)))))))
    · have st := step (.inr (.inl g2)); clear step fin; refine Qy J J J (Qy J J J (QJ J J J J (Qj (hK _ _ (Qz (Qp J (Q1 (Qz (Qw (Q5 (Qw ?_))))))))))); clear hK K; refine Qx (fun K hK => ?_); refine Qq J J J (Qq J J J (QW gorlimb (Y8 (limbs a) i) J J J J (Qq J J J (Qq J J J (QW gorlimb (Y8 (limbs b) i) J J J J (Qk (iadd (by omega) (by omega)) J J J J ?_)))))); refine Qq J J J (Qk (iadd (by omega) (by omega)) J J J J ?_); refine Qv J J J (Qj (hK _ _ (Qz (Qw ?_)))); clear hK K; refine Qx (fun K hK => ?_); refine Qq J J J (Qq J J J (Qk (irem (by omega) (by omega)) J J J J ?_)); refine Zj J J sNat J J J (Qt zs.length (ints (zs ++ [((limbs a).getD i 0 + (limbs b).getD i 0 + c) % 1073741824])) J J J J sNat (by simp [ints]) J (by omega) (by omega) (by simp [ints]) J ?_); refine Qv J J J (Qj (hK _ _ (Qz ?_))); clear hK K; refine Qx (fun K hK => ?_); refine Qq J J J (Qk (iquo (by omega) (by omega) (by omega)) J J J J ?_); refine Qv J J J (Qj (hK _ _ (Qz ?_))); clear hK K; refine Qx (fun K hK => ?_); refine Qq J J J (Qk (iadd (by omega) (by omega)) J J J J ?_); refine Qv J J J (Qj (hK _ _ (Q4 ?_))); clear hK K
      refine Q8 (i + 1, zs ++ [((limbs a).getD i 0 + (limbs b).getD i 0 + c) % 1073741824], ((limbs a).getD i 0 + (limbs b).getD i 0 + c) / 1073741824) st.1 st.2 (by exact QX J ⟨rfl, rfl, rfl, rfl, by simp only [Int.natCast_add]; rfl, trivial⟩)
    · refine Qq J J J (Qk igtr J J J J (QK J J J J (Qj (hK _ _ (Qz ?_))))); clear hK K; refine Q2 J (fun g3 => ?_) (fun g3 => ?_)
      · have st := step (.inr (.inr g3)); clear step fin; refine Q1 (Qz (Qw (Q5 (Qw (Qx fun K hK => ?_))))); refine Qq J J J (Qq J J J (QW gorlimb (Y8 (limbs a) i) J J J J (Qq J J J (Qq J J J (QW gorlimb (Y8 (limbs b) i) J J J J (Qk (iadd (by omega) (by omega)) J J J J ?_)))))); refine Qq J J J (Qk (iadd (by omega) (by omega)) J J J J ?_); refine Qv J J J (Qj (hK _ _ (Qz (Qw ?_)))); clear hK K; refine Qx (fun K hK => ?_); refine Qq J J J (Qq J J J (Qk (irem (by omega) (by omega)) J J J J ?_)); refine Zj J J sNat J J J (Qt zs.length (ints (zs ++ [((limbs a).getD i 0 + (limbs b).getD i 0 + c) % 1073741824])) J J J J sNat (by simp [ints]) J (by omega) (by omega) (by simp [ints]) J ?_); refine Qv J J J (Qj (hK _ _ (Qz ?_))); clear hK K; refine Qx (fun K hK => ?_); refine Qq J J J (Qk (iquo (by omega) (by omega) (by omega)) J J J J ?_); refine Qv J J J (Qj (hK _ _ (Qz ?_))); clear hK K; refine Qx (fun K hK => ?_); refine Qq J J J (Qk (iadd (by omega) (by omega)) J J J J ?_); refine Qv J J J (Qj (hK _ _ (Q4 ?_))); clear hK K
        refine Q8 (i + 1, zs ++ [((limbs a).getD i 0 + (limbs b).getD i 0 + c) % 1073741824], ((limbs a).getD i 0 + (limbs b).getD i 0 + c) / 1073741824) st.1 st.2 (by exact QX J ⟨rfl, rfl, rfl, rfl, by simp only [Int.natCast_add]; rfl, trivial⟩)
      · have fe := fin (by omega); refine Zi 0 _ J (Zz _ _) noBor_sub (Qs (Qz (Qw (Qx fun K hK => ?_)))); refine Qq J J J (Qv J J J (Qj (hK _ _ (Qz (Q0 ?_))))); clear hK K; refine QU [_] rfl (Qu J QQ) (by rw [fe]; rfl) J
theorem gorPlus : InGo Tryz.prog 131 := InGo.of Tryz.func131 (by kernel_rfl) (by kernel_rfl)
end Go.Proofs.YtlkdkbdgnjcopaaGreat
