/- The proof that LossTruth holds for every input, without conditions: part 3 of 4. -/
import Derived.Test.YtlkdkbdgnjcopaaGreatZ2
namespace Go.Proofs.YtlkdkbdgnjcopaaGreat
open Go.Own Go.Limbs Go.Shelf
open Go.Sort hiding Ok
attribute [local irreducible] St Ops Go.Own.Fin Ok OkB OkN OkT OkL OkF
theorem goTr1 : InGo Tryz.prog 123 := InGo.of Tryz.func123 rfl (by decide)
theorem Tr1_ok (a b : Tk) : Ok Tryz.prog 123 [tkC a, tkC b] (intC (cmpT a b)) := by
  have e0 : cmpT a b = firstN [cmp3 a.va b.va, cmp3 a.ds.val b.ds.val, cmp3 a.pr b.pr] := by
    unfold cmpT tkI
    simp only [cmpL, firstN]
  rw [e0]
  clear e0
  have h1 := cm_ok a.va b.va
  have h2 := cmA_ok (a.ds.val : Int) (b.ds.val : Int)
  have h3 := cm_ok a.pr b.pr
  have hO := Or_ok [cmp3 a.va b.va, cmp3 a.ds.val b.ds.val, cmp3 a.pr b.pr] (by simp)
  generalize cmp3 a.va b.va = c1 at h1 hO ⊢
  generalize cmp3 (a.ds.val : Int) (b.ds.val : Int) = c2 at h2 hO ⊢
  generalize cmp3 a.pr b.pr = c3 at h3 hO ⊢
  refine Ok.enter Tryz.func123 rfl _ Tryz.ntmps123 rfl ?_
  intro S w
  (refine Qy (Qq fun K hK => ?_); refine XQ 0 rfl rfl rfl rfl rfl rfl rfl ?_; refine XQ 1 rfl rfl rfl rfl rfl rfl rfl ?_; refine Qv rfl rfl rfl ?_; refine Qj (hK _ _ (Qx (Qy ?_))); clear hK K)
  refine XJ (by with_reducible exact mixed) 18 (.p 0 (.p 2 (.p 5 (.p 7 (.p 10 (.p 12 (.f 1 (.f 3 (.f 6 (.f 8 (.f 11 (.f 13 (.m 4 (.m 9 (.m 14 (.m 15 (.m 16 (.p 17 .done)))))))))))))))))) (by kernel_rfl) (fun K hK => ?_)
  (refine QY rfl rfl rfl (by with_reducible first | exact fTk0 | exact fTk1 | exact fTk2 | exact fWr0 | exact fWr1 | exact X6 | exact X7 | exact Xt | exact fStm1 | exact fCn0 | exact fCn1 | exact fCn2 | exact fCn3 | exact fCs0 | exact fCs1) rfl ?_; refine QY rfl rfl rfl (by with_reducible first | exact fTk0 | exact fTk1 | exact fTk2 | exact fWr0 | exact fWr1 | exact X6 | exact X7 | exact Xt | exact fStm1 | exact fCn0 | exact fCn1 | exact fCn2 | exact fCn3 | exact fCs0 | exact fCs1) rfl ?_; refine QY rfl rfl rfl (by with_reducible first | exact fTk0 | exact fTk1 | exact fTk2 | exact fWr0 | exact fWr1 | exact X6 | exact X7 | exact Xt | exact fStm1 | exact fCn0 | exact fCn1 | exact fCn2 | exact fCn3 | exact fCs0 | exact fCs1) rfl ?_; refine QY rfl rfl rfl (by with_reducible first | exact fTk0 | exact fTk1 | exact fTk2 | exact fWr0 | exact fWr1 | exact X6 | exact X7 | exact Xt | exact fStm1 | exact fCn0 | exact fCn1 | exact fCn2 | exact fCn3 | exact fCs0 | exact fCs1) rfl ?_; refine QY rfl rfl rfl (by with_reducible first | exact fTk0 | exact fTk1 | exact fTk2 | exact fWr0 | exact fWr1 | exact X6 | exact X7 | exact Xt | exact fStm1 | exact fCn0 | exact fCn1 | exact fCn2 | exact fCn3 | exact fCs0 | exact fCs1) rfl ?_; refine QY rfl rfl rfl (by with_reducible first | exact fTk0 | exact fTk1 | exact fTk2 | exact fWr0 | exact fWr1 | exact X6 | exact X7 | exact Xt | exact fStm1 | exact fCn0 | exact fCn1 | exact fCn2 | exact fCn3 | exact fCs0 | exact fCs1) rfl ?_; refine QJ rfl rfl rfl rfl rfl (by with_reducible first | exact lInt | exact Qh | exact Qf | exact lRess) rfl ?_; refine QJ rfl rfl rfl rfl rfl (by with_reducible first | exact lInt | exact Qh | exact Qf | exact lRess) rfl ?_; refine QJ rfl rfl rfl rfl rfl (by with_reducible first | exact lInt | exact Qh | exact Qf | exact lRess) rfl ?_; refine QJ rfl rfl rfl rfl rfl (by with_reducible first | exact lInt | exact Qh | exact Qf | exact lRess) rfl ?_; refine QJ rfl rfl rfl rfl rfl (by with_reducible first | exact lInt | exact Qh | exact Qf | exact lRess) rfl ?_; refine QJ rfl rfl rfl rfl rfl (by with_reducible first | exact lInt | exact Qh | exact Qf | exact lRess) rfl ?_)
  refine QZ gocm h1 rfl rfl rfl rfl ?_
  refine QZ gocmA h2 rfl rfl rfl rfl ?_
  refine QZ gocm h3 rfl rfl rfl rfl ?_
  refine Ops.litI [c1, c2, c3] rfl rfl (by with_reducible exact sInts) rfl ⟨rfl, rfl, rfl, rfl, rfl, rfl, trivial⟩ (by decide) rfl ?_
  refine QZ goOr hO rfl rfl rfl rfl ?_
  (refine Qv rfl rfl rfl ?_; refine Qj (hK _ _ (Qx (QU ?_))); clear hK K)
  refine QW [_] rfl (QQ rfl QX) rfl rfl
def tkV (t : Tk) : List Value := [.int .i64 t.va, .int .u32 t.ds.val, .int .i64 t.pr]
abbrev cmpTV : CT := .ex (.func (.func 123) #[] #[])
theorem goSortT : InGo Tryz.prog 122 := InGo.of Tryz.func122 rfl (by decide)
theorem SortT_ok (l : List Tk) (hl : l.length < 4611686018427387904) : OkL Tryz.prog 122 86 3 (tks l) [cmpTV] unitC (tks (l.mergeSort fun x y => !(ltOf cmpT) y x)) :=
  sortFunc_L laySortT (enc := tkV) (k := 3) (cf := cmpT) (g := 123) (by decide) Tryz.isAgg86 Tryz.sizeOf86 (fun _ => rfl) (fun x v hv => by
    simp only [tkV, List.mem_cons, List.not_mem_nil, or_false] at hv
    rcases hv with rfl | rfl | rfl <;> rfl)
    ordT.swo ordT.tot goTr1 Tr1_ok 86 l hl
def trsF (l : List Rs) : List Tk := sd cmpT ((l.filter okR).map trOf)
theorem goTraces : InGo Tryz.prog 86 := InGo.of Tryz.func86 rfl (by decide)
set_option maxHeartbeats 4000000 in
theorem Traces_ok (l : List Rs) (hl : l.length ≤ 10000) : OkF Tryz.prog 86 [rssC l] 86 3 (tks (trsF l)) := by
  refine OkF.enter Tryz.func86 rfl _ Tryz.ntmps86 rfl ?_
  intro S w
  (refine Qy (Qq fun K hK => ?_); refine Qv rfl rfl rfl ?_; refine Qj (hK _ _ (Qx (Qy ?_))); clear hK K; refine Qq (fun K hK => ?_); refine Qv rfl rfl rfl ?_; refine Qj (hK _ _ (Qx (Qy (Qy ?_)))); clear hK K; refine Qq (fun K hK => ?_); refine Qz rfl rfl rfl ?_; refine Qd rfl rfl (by with_reducible exact sRes.und) (List.length_map ..) rfl ?_; refine Qz rfl rfl rfl ?_; refine Qj (hK _ _ (Qx (Q2 ?_))); clear hK K)
  refine Xg 3 0 86 3 rfl rfl rfl ?_
  refine Xz (α := Nat) (fun i => i ≤ l.length)
    (fun i => [(3, .own 0), (6, .ct (rssC l)), (7, .ct (intC l.length)), (8, .ct (intC i))]) (fun i => [(0, .row 86 3 (tks (((l.take i).filter okR).map trOf)))]) (fun i => l.length - i) 0 (Nat.zero_le _) (by exact Qu rfl ⟨rfl, rfl, rfl, rfl, trivial⟩) ?_
  intro i hi
  try dsimp only at hi
  try dsimp only
  (refine Qy (Qq fun K hK => ?_); refine Qk ilss rfl rfl rfl rfl ?_; refine Qj (hK _ _ (Qx (Qy ?_))); clear hK K)
  refine Q1 rfl (fun h => ?_) (fun h => ?_)
  · have e2 : (i : Int).toNat = i := Int.toNat_natCast i
    have hs := filter_take okR (z := rs0) (i := i) (l := l) (by omega)
    have hfl := filter_len okR l i
    (refine Q0 (Qx (Qy (Q2 (Qy (Qq fun K hK => ?_))))); refine Qm rfl rfl rfl (by with_reducible exact sRes) (by omega) (rss_at (by omega) (by omega)) rfl ?_; refine Xr (n := 17) rfl rfl rfl (by with_reducible exact lRes) rfl rfl ?_; refine Qi 1 rfl rfl (by with_reducible exact zvRes) rfl rfl rfl ?_; refine Qb 17 rfl rfl rfl rfl rfl (by with_reducible exact szRes) rfl rfl ?_; refine Qj (hK _ _ (Qx (Qy ?_))); clear hK K; refine Qq (fun K hK => ?_); refine Q8 (n := 17) rfl rfl rfl rfl rfl (by with_reducible exact lRes) rfl ?_)
    rw [e2]
    generalize l.getD i rs0 = c at hs
    skip
    refine QZ goValidR (ValidR_ok c) rfl rfl rfl rfl ?_
    (refine Qj (hK _ _ (Qx ?_)); clear hK K)
    refine XK rfl (fun h2 => ?_) (fun h2 => ?_)
    · rw [if_pos h2] at hs
      (refine Qq (fun K hK => ?_); refine Qz rfl rfl rfl ?_; refine Q8 (n := 17) rfl rfl rfl rfl rfl (by with_reducible exact lRes) rfl ?_)
      refine QZ goTraceOf (TraceOf_ok c) rfl rfl rfl rfl ?_
      generalize (l.take i).filter okR = out at hs hfl ⊢
      refine ZX (n := 3) rfl rfl (by with_reducible exact sTks) rfl rfl (by decide) rfl ?_
      refine Xk (out.map trOf).length (tks (out.map trOf ++ [trOf c])) rfl rfl rfl rfl (by with_reducible exact sTks) (tks_len _) rfl (by rw [List.length_map]; omega) (by rw [List.length_map]; omega) (tks_snoc _ _) rfl ?_
      (refine Qv rfl rfl rfl ?_; refine Qj (hK _ _ (Qx ?_)); clear hK K; refine Qq (fun K hK => ?_); refine Qk (iadd (by omega) (by omega)) rfl rfl rfl rfl ?_; refine Qz rfl rfl rfl ?_; refine Qj (hK _ _ (Q4 ?_)); clear hK K)
      refine Xj 1 ?_
      refine Q9 (i + 1) (by omega) (by omega) (by rw [hs, List.map_append]; exact Qu rfl ⟨rfl, rfl, rfl, by simp only [Int.natCast_add]; rfl, trivial⟩)
    · rw [if_neg (by rw [h2]; decide)] at hs
      (refine Q0 (Qx (Qq fun K hK => ?_)); refine Qk (iadd (by omega) (by omega)) rfl rfl rfl rfl ?_; refine Qz rfl rfl rfl ?_; refine Qj (hK _ _ (Q4 ?_)); clear hK K)
      refine Xj 1 ?_
      refine Q9 (i + 1) (by omega) (by omega) (by rw [hs]; exact Qu rfl ⟨rfl, rfl, rfl, by simp only [Int.natCast_add]; rfl, trivial⟩)
  · have hi' : i = l.length := by omega
    rw [hi', List.take_length]
    have hfl : ((l.filter okR).map trOf).length ≤ l.length := by rw [List.length_map]; exact List.length_filter_le _ _
    unfold trsF
    generalize (l.filter okR).map trOf = m at hfl ⊢
    (refine Qo (Qx (Qy (Qq fun K hK => ?_))); refine Qz rfl rfl rfl ?_)
    refine Ops.callL goSortT (SortT_ok m (by omega)) rfl rfl rfl rfl rfl ?_
    (refine Qj (hK _ _ (Qx (Qy ?_))); clear hK K; refine Qq (fun K hK => ?_); refine Qz rfl rfl rfl ?_)
    refine Ops.callT goCompact_Tk (Compact_Tk_ok _ (by rw [List.length_mergeSort]; omega)) rfl rfl rfl rfl rfl ?_
    (refine Qv rfl rfl rfl ?_; refine Qj (hK _ _ (Qx (QU ?_))); clear hK K)
    refine Fin.retF rfl rfl rfl rfl
def ofF (l : List Rs) (t : Tk) : List Rs := (sd cmpR (l.filter okR)).filter fun r => decide (trOf r = t)
theorem goOf : InGo Tryz.prog 87 := InGo.of Tryz.func87 rfl (by decide)
set_option maxHeartbeats 4000000 in
theorem Of_ok (l : List Rs) (t : Tk) (hl : l.length ≤ 10000) : OkF Tryz.prog 87 [rssC l, tkC t] 35 17 (rss (ofF l t)) := by
  have hO := Order_ok l hl
  have hol : (sd cmpR (l.filter okR)).length ≤ 10000 := by
    have := sd_len cmpR (l.filter okR)
    have := List.length_filter_le okR l
    omega
  unfold ofF
  generalize sd cmpR (l.filter okR) = o at hO hol ⊢
  refine OkF.enter Tryz.func87 rfl _ Tryz.ntmps87 rfl ?_
  intro S w
  (refine Qy (Qq fun K hK => ?_); refine XQ 0 rfl rfl rfl rfl rfl rfl rfl ?_; refine Qv rfl rfl rfl ?_; refine Qj (hK _ _ (Qx (Qy ?_))); clear hK K; refine Qq (fun K hK => ?_); refine Qv rfl rfl rfl ?_; refine Qj (hK _ _ (Qx (Qy (Qy ?_)))); clear hK K; refine Qq (fun K hK => ?_); refine Qz rfl rfl rfl ?_)
  refine Z9 3 goOrder hO rfl rfl rfl rfl rfl rfl ?_
  refine Xs 3 _ rfl (Za _ _) XW ?_
  (refine Qd rfl rfl (by with_reducible exact sRes.und) (List.length_map ..) rfl ?_; refine Qz rfl rfl rfl ?_; refine Qj (hK _ _ (Qx (Q2 ?_))); clear hK K)
  refine Xg 5 1 35 17 rfl rfl rfl ?_
  refine Xz (α := Nat) (fun i => i ≤ o.length)
    (fun i => [(3, .own 0), (5, .own 1), (9, .ct (rssC o)), (10, .ct (intC o.length)), (11, .ct (intC i))]) (fun i => [(1, .row 35 17 (rss ((o.take i).filter fun r => decide (trOf r = t)))), (0, .box 86 (tkCs t))]) (fun i => o.length - i) 0 (Nat.zero_le _) (by exact Qu rfl ⟨rfl, rfl, rfl, rfl, rfl, trivial⟩) ?_
  intro i hi
  try dsimp only at hi
  try dsimp only
  (refine Qy (Qq fun K hK => ?_); refine Qk ilss rfl rfl rfl rfl ?_; refine Qj (hK _ _ (Qx (Qy ?_))); clear hK K)
  refine Q1 rfl (fun h => ?_) (fun h => ?_)
  · have e2 : (i : Int).toNat = i := Int.toNat_natCast i
    have hs := filter_take (fun r => decide (trOf r = t)) (z := rs0) (i := i) (l := o) (by omega)
    have hfl := filter_len (fun r => decide (trOf r = t)) o i
    (refine Q0 (Qx (Qy (Q2 (Qy (Qq fun K hK => ?_))))); refine Qm rfl rfl rfl (by with_reducible exact sRes) (by omega) (rss_at (by omega) (by omega)) rfl ?_; refine Xr (n := 17) rfl rfl rfl (by with_reducible exact lRes) rfl rfl ?_; refine Qi 2 rfl rfl (by with_reducible exact zvRes) rfl rfl rfl ?_; refine Qb 17 rfl rfl rfl rfl rfl (by with_reducible exact szRes) rfl rfl ?_; refine Qj (hK _ _ (Qx (Qy ?_))); clear hK K)
    rw [e2]
    generalize o.getD i rs0 = c at hs
    generalize (o.take i).filter (fun r => decide (trOf r = t)) = out at hs hfl ⊢
    refine XJ (by with_reducible exact mixed) 4 (.f 0 (.f 2 (.m 1 (.p 3 .done)))) (by kernel_rfl) (fun K hK => ?_)
    (refine Q8 (n := 17) rfl rfl rfl rfl rfl (by with_reducible exact lRes) rfl ?_; refine Q8 (n := 3) rfl rfl rfl rfl rfl (by with_reducible exact lTrace) rfl ?_)
    refine QZ goTraceOf (TraceOf_ok c) rfl rfl rfl rfl ?_
    refine eqTk (trOf c) t rfl rfl rfl rfl rfl ?_
    (refine Qj (hK _ _ (Qx ?_)); clear hK K)
    refine Q1 rfl (fun h2 => ?_) (fun h2 => ?_)
    · rw [if_pos (decide_eq_true h2)] at hs
      (refine Qq (fun K hK => ?_); refine Qz rfl rfl rfl ?_; refine Q8 (n := 17) rfl rfl rfl rfl rfl (by with_reducible exact lRes) rfl ?_)
      refine ZX (n := 17) rfl rfl (by with_reducible exact sRes) rfl rfl (by decide) rfl ?_
      refine Xk out.length (rss (out ++ [c])) rfl rfl rfl rfl (by with_reducible exact sRes) (Z6 out) rfl (by omega) (by omega) (rss_snoc out c) rfl ?_
      (refine Qv rfl rfl rfl ?_; refine Qj (hK _ _ (Qx ?_)); clear hK K; refine Qq (fun K hK => ?_); refine Qk (iadd (by omega) (by omega)) rfl rfl rfl rfl ?_; refine Qz rfl rfl rfl ?_; refine Qj (hK _ _ (Q4 ?_)); clear hK K)
      refine Xj 2 ?_
      refine Q9 (i + 1) (by omega) (by omega) (by rw [hs]; exact Qu rfl ⟨rfl, rfl, rfl, rfl, by simp only [Int.natCast_add]; rfl, trivial⟩)
    · rw [if_neg (by rw [decide_eq_false h2]; decide)] at hs
      (refine Q0 (Qx (Qq fun K hK => ?_)); refine Qk (iadd (by omega) (by omega)) rfl rfl rfl rfl ?_; refine Qz rfl rfl rfl ?_; refine Qj (hK _ _ (Q4 ?_)); clear hK K)
      refine Xj 2 ?_
      refine Q9 (i + 1) (by omega) (by omega) (by rw [hs]; exact Qu rfl ⟨rfl, rfl, rfl, rfl, by simp only [Int.natCast_add]; rfl, trivial⟩)
  · have hi' : i = o.length := by omega
    rw [hi', List.take_length]
    (refine Qo (Qx (Qy (Qq fun K hK => ?_))); refine Qz rfl rfl rfl ?_; refine Qv rfl rfl rfl ?_; refine Qj (hK _ _ (Qx (QU ?_))); clear hK K)
    refine Fin.retF rfl rfl rfl rfl
end Go.Proofs.YtlkdkbdgnjcopaaGreat
namespace Go.Own
variable {P : Program} {n : Nat} {S : BSet} {w0 : World} {B0 : BL} {fx : List Nat} {ρ0 : Nat → Value} {α : Type} {J : α → Prop} {R : α → Sl} {B1 : α → BL} {L : AL} {B : BL}
theorem Is.dropsB {X : Ctx} {a : Act} {ρ : Nat → Value} {w : World} {v : Value} {c : CT} : ∀ (ds : List Nat) {B : BL}, (ds.all fun i => noFix X i) = true → Is X L B a ρ w → c.p (Sof X B ρ) w v → Is X L (ds.foldl bdel B) a ρ w ∧ c.p (Sof X (ds.foldl bdel B) ρ) w v
  | [], _, _, h, hv => ⟨h, hv⟩
  | i :: ds, B, hf, h, hv => by
    rw [List.all_cons, Bool.and_eq_true] at hf
    exact Is.dropsB ds hf.2 (h.dropB i hf.1) (CT.mono (Sof_del i) hv)
theorem Fin.retMCG {fn : Func} {cs : List CT} {rv : List ResultVar} (ds : List Nat) (q : α) (hfn : fn.results = rv.toArray) (hr : AllRes (lentM P n S w0 B0 fx ρ0) L B rv cs) (hR : R q = .ct (retC cs)) (hf : (ds.all fun i => noFix (lentM P n S w0 B0 fx ρ0) i) = true) (hB : ∀ j, bget (B1 q) j = bget (ds.foldl bdel B) j) (hJ : J q) :
    ∀ a ρ w, Is (lentM P n S w0 B0 fx ρ0) L B a ρ w → a.defers = [] ∧ ∃ v, (results fn a.tmps).run P w = .ok v w ∧ Own.postM S w0 ρ0 B0 fx J R B1 (.returned v) w := fun a ρ w hI => by
  obtain ⟨v, h1, h2⟩ := results_run hfn hr hI
  obtain ⟨h3, h4⟩ := Is.dropsB ds hf hI h2
  exact ⟨hI.defers, v, h1, h3.postM q hB hJ (by rw [hR]; exact h4)⟩
theorem Fin.retMC {fn : Func} {cs : List CT} (ds : List Nat) (q : α) (rv : List ResultVar) (hfn : fn.results = rv.toArray) (hr : AllRes (lentM P n S w0 B0 fx ρ0) L B rv cs) (hR : R q = .ct (retC cs)) (hf : (ds.all fun i => noFix (lentM P n S w0 B0 fx ρ0) i) = true) (hB : ∀ j, bget (B1 q) j = bget (ds.foldl bdel B) j) (hJ : J q) :
    Fin (lentM P n S w0 B0 fx ρ0) L B (fun a w => bodyPost P fn (Own.postM S w0 ρ0 B0 fx J R B1) .ret a w) := Fin.retMCG ds q hfn hr hR hf hB hJ
theorem St.cutR {X : Ctx} {c y : Code} {Q : Exit → Act → World → Prop} {α : Type} (J : α → Prop) (Lx : α → AL) (Bx : α → BL) (h1 : ∀ q, J q → St X (Lx q) (Bx q) y Q)
    (h2 : ∀ K : Exit → Act → World → Prop, (∀ q, J q → Fin X (Lx q) (Bx q) (fun a w => K .normal a w)) → (∀ a w, Q .ret a w → K .ret a w) → St X L B c K) : St X L B c (Exit.then (y.wp X.P Q) Q) :=
  h2 _ (fun q hq => h1 q hq) (fun _ _ h => h)
theorem Fin.up {X : Ctx} {K1 K2 : Act → World → Prop} (h : ∀ a w, K1 a w → K2 a w) (h1 : Fin X L B K1) : Fin X L B K2 := fun a ρ w hI => h a w (h1 a ρ w hI)
end Go.Own
namespace Go.Proofs.YtlkdkbdgnjcopaaGreat
open Go.Own Go.Limbs
attribute [local irreducible] St Ops Go.Own.Fin Ok OkB OkN OkT OkL OkF OkM
abbrev Stm := Tk × Int
abbrev stmI (s : Stm) : List Int := [s.1.va, (s.1.ds.val : Int), s.1.pr, s.2]
abbrev stmE (s : Stm) : Value := Go.Own.encI ([.i64, .u32, .i64] ++ [.i64]) (stmI s)
abbrev stmV (s : Stm) : List Value := [.int .i64 s.1.va, .int .u32 (s.1.ds.val : Int), .int .i64 s.1.pr, .int .i64 s.2]
abbrev stmCs (s : Stm) : List CT := [intC s.1.va, adrF s.1.ds, intC s.1.pr, intC s.2]
theorem eqStm : EqF Tryz.prog 145 86 [.i64, .u32, .i64] [.i64] := ⟨by kernel_rfl, by kernel_rfl, by kernel_rfl, by kernel_rfl, by kernel_rfl, by kernel_rfl, by kernel_rfl, by kernel_rfl⟩
theorem stmI_inj (a b : Stm) (h : stmI a = stmI b) : a = b := by
  obtain ⟨⟨a1, a2, a3⟩, a4⟩ := a
  obtain ⟨⟨b1, b2, b3⟩, b4⟩ := b
  simp only [List.cons.injEq, and_true, Int.ofNat_inj, Fin.val_inj] at h
  obtain ⟨h1, h2, h3, h4⟩ := h
  rw [h1, h2, h3, h4]
theorem keyStm : KeyT Tryz.prog 145 stmE := eqStm.flat.key stmI (fun _ => rfl) stmI_inj
theorem lStm : LdN Tryz.prog 145 4 := LdN.of _ Tryz.underlying145 rfl (by kernel_rfl)
theorem szStm : (Tryz.prog.info? 145).map (·.size) = some 4 := by kernel_rfl
theorem zvStm : (Tryz.prog.info? 145).map (·.zero) = some (some (.agg #[.int .i64 0, .int .u32 0, .int .i64 0, .int .i64 0])) := by kernel_rfl
theorem bStm : bInfo Tryz.prog 145 = some (.agg #[.int .i64 0, .int .u32 0, .int .i64 0, .int .i64 0], [(0, some 3), (3, some 1)]) := by kernel_rfl
theorem Xt : fldInfo Tryz.prog 145 0 = some (0, some 3) := by kernel_rfl
theorem uMOwn : Tryz.prog.underlying 91 = some (.map 86 29) := Tryz.underlying91
theorem uMKnown : Tryz.prog.underlying 92 = some (.map 145 28) := Tryz.underlying92
theorem lMOwn : Ld1 Tryz.prog 91 := Ld1.of _ Tryz.underlying91 rfl
theorem lMKnown : Ld1 Tryz.prog 92 := Ld1.of _ Tryz.underlying92 rfl
theorem lTrav : LdN Tryz.prog 94 2 := LdN.of _ Tryz.underlying94 rfl (by kernel_rfl)
theorem szTrav : (Tryz.prog.info? 94).map (·.size) = some 2 := by kernel_rfl
theorem zvTrav : (Tryz.prog.info? 94).map (·.zero) = some (some (.agg #[.map none, .map none])) := by kernel_rfl
theorem bTrav : bInfo Tryz.prog 94 = some (.agg #[.map none, .map none], [(0, some 1), (1, some 1)]) := by kernel_rfl
theorem X6 : fldInfo Tryz.prog 94 0 = some (0, some 1) := by kernel_rfl
theorem X7 : fldInfo Tryz.prog 94 1 = some (1, some 1) := by kernel_rfl
theorem z0Rss (w : World) : (zeroValue 29).run Tryz.prog w = .ok (.slice none 0 0) w := X8 (by kernel_rfl) w
theorem z0Ads (w : World) : (zeroValue 28).run Tryz.prog w = .ok (.slice none 0 0) w := X8 (by kernel_rfl) w
abbrev tkE (t : Tk) : Value := Go.Own.encI [.i64, .u32, .i64] (tkI t)
abbrev tkVs (t : Tk) : List Value := [.int .i64 t.va, .int .u32 (t.ds.val : Int), .int .i64 t.pr]
abbrev OwM := List (Tk × List Rs)
def owF (l : List Rs) : OwM := (trsF l).foldl (fun m t => ins m t (ofF l t)) []
abbrev owM (m : OwM) : List (Value × CT) := kvs tkE rssC m
abbrev adsC (l : List (Fin 4294967296)) : CT := .fr (sliceT 1 (l.map fun x => [adrF x]))
abbrev KnM := List (Stm × List (Fin 4294967296))
abbrev knM (m : KnM) : List (Value × CT) := kvs stmE adsC m
abbrev travC (om : OwM) (v : Value) : CT := .fr (aggT [.fr (mapT (owM om)), .ex v])
theorem owF_look (l : List Rs) (t : Tk) : (look1 (owF l) t).getD [] = ofF l t := by
  have key : ∀ (q : List Tk) (m : OwM), look1 (q.foldl (fun m t => ins m t (ofF l t)) m) t = if t ∈ q then some (ofF l t) else look1 m t := by
    intro q
    induction q with
    | nil => intro m; rw [if_neg (by simp)]; rfl
    | cons x q ih =>
      intro m
      rw [List.foldl_cons, ih, Zd]
      by_cases h : t ∈ q
      · rw [if_pos h, if_pos (List.mem_cons_of_mem _ h)]
      · rw [if_neg h]
        by_cases e : t = x
        · subst e; rw [if_pos rfl, if_pos (List.mem_cons_self ..)]
        · rw [if_neg e, if_neg (fun hm => (List.mem_cons.1 hm).elim e h)]
  unfold owF
  rw [key]
  by_cases h : t ∈ trsF l
  · rw [if_pos h]; rfl
  · rw [if_neg h]
    show [] = ofF l t
    unfold ofF
    symm
    refine List.filter_eq_nil_iff.2 fun r hr => ?_
    intro he
    refine h ?_
    have hm := ((sd_spec ordR (l.filter okR)).2 r).1 hr
    exact ((sd_spec ordT ((l.filter okR).map trOf)).2 t).2 (List.mem_map.2 ⟨r, hm, of_decide_eq_true he⟩)
def knOk (l : List Rs) (m : KnM) : Prop := ∀ s p, look1 m s = some p → p = pathF (ofF l s.1) s.2
end Go.Proofs.YtlkdkbdgnjcopaaGreat
namespace Go.Own
open Go.RowKit
variable {X : Ctx} {L : AL} {B : BL} {ops : Array Oper} {K : Act → World → Prop}
end Go.Own
namespace Go.Proofs.YtlkdkbdgnjcopaaGreat
open Go.Own
attribute [local irreducible] St Ops Go.Own.Fin Ok OkB OkN OkT OkL OkF wpR
abbrev Ad := Fin 4294967296
theorem sAdrs : SlcT Tryz.prog 28 27 1 4 (.int .u32 0) := SlcT.of Tryz.underlying28 (by kernel_rfl) rfl (by decide)
abbrev zNet : Value := .agg #[.int .i64 0, .int .u32 0, .int .i64 0, .slice none 0 0, .int .u32 0]
abbrev adrsC (p : List Ad) : CT := .fr (sliceT 1 (p.map fun x => [adrF x]))
def adrs (p : List Ad) : List CT := p.map adrF
theorem adrs_frozen (e : Nat) (p : List Ad) : (Ent.row e 1 (adrs p)).frozen (sliceT 1 (p.map fun x => [adrF x])) :=
  ⟨p.map fun x => [adrF x], (flat_one adrF p).symm, by simp, by decide, rfl⟩
theorem adrs_at {p : List Ad} {j : Int} (h0 : 0 ≤ j) (h : j < (p.length : Int)) : (p.map fun x => [adrF x])[j.toNat]? = some [adrF (p.getD j.toNat 0)] := by
  have hl : j.toNat < p.length := by omega
  rw [List.getElem?_map, List.getElem?_eq_getElem hl, List.getD_eq_getElem?_getD, List.getElem?_eq_getElem hl]; rfl
abbrev pthsC (ps : List (List Ad)) : CT := .fr (sliceT 1 (ps.map fun p => [adrsC p]))
def pths (ps : List (List Ad)) : List CT := ps.map adrsC
structure Nt where
  va : Int
  ds : Ad
  pr : Int
  ps : List (List Ad)
  la : Ad
abbrev ntCs (q : Nt) : List CT := [intC q.va, adrF q.ds, intC q.pr, pthsC q.ps, adrF q.la]
structure NtIn (q : Nt) : Prop where
  v0 : 0 ≤ q.va
  v1 : q.va < 2
  l0 : 1 ≤ q.ps.length
  l1 : q.ps.length ≤ 3
  pl : ∀ p ∈ q.ps, 1 ≤ p.length ∧ p.length ≤ 3
def nts (l : List Nt) : List CT := (l.map ntCs).flatten
end Go.Proofs.YtlkdkbdgnjcopaaGreat
namespace Go.Proofs.YtlkdkbdgnjcopaaGreat
open Go.Own Go.Limbs
attribute [local irreducible] St Ops Go.Own.Fin Ok OkB OkN OkT OkL OkF
abbrev spE (s : Sp) : Value := Go.Own.encI [.i64, .i64] [s.1, s.2]
theorem eqSp : EqS Tryz.prog 188 [.i64, .i64] := ⟨by kernel_rfl, by kernel_rfl, by kernel_rfl, by kernel_rfl⟩
theorem X0 : KeyT Tryz.prog 188 spE := eqSp.flat.key (fun s : Sp => [s.1, s.2]) (fun _ => rfl) (fun a b h => by
  obtain ⟨a1, a2⟩ := a; obtain ⟨b1, b2⟩ := b
  simp only [List.cons.injEq, and_true] at h
  rw [h.1, h.2])
theorem uMAd : Tryz.prog.underlying 181 = some (.map 188 27) := Tryz.underlying181
theorem uMSt : Tryz.prog.underlying 182 = some (.map 188 3) := Tryz.underlying182
theorem lMAd : Ld1 Tryz.prog 181 := Ld1.of _ Tryz.underlying181 rfl
theorem lMSt : Ld1 Tryz.prog 182 := Ld1.of _ Tryz.underlying182 rfl
theorem fV0 : fldInfo Tryz.prog 184 0 = some (0, some 1) := by kernel_rfl
theorem fV1 : fldInfo Tryz.prog 184 1 = some (1, some 1) := by kernel_rfl
theorem fV2 : fldInfo Tryz.prog 184 2 = some (2, some 1) := by kernel_rfl
theorem lView : LdN Tryz.prog 184 3 := LdN.of _ Tryz.underlying184 rfl (by kernel_rfl)
theorem szView : (Tryz.prog.info? 184).map (·.size) = some 3 := by kernel_rfl
theorem zvView : (Tryz.prog.info? 184).map (·.zero) = some (some (.agg #[.int .i64 0, .map none, .map none])) := by kernel_rfl
theorem bView : bInfo Tryz.prog 184 = some (.agg #[.int .i64 0, .map none, .map none], [(0, some 1), (1, some 1), (2, some 1)]) := by kernel_rfl
theorem Zg : LdN Tryz.prog 188 2 := LdN.of _ Tryz.underlying188 rfl (by kernel_rfl)
theorem szSpot : (Tryz.prog.info? 188).map (·.size) = some 2 := by kernel_rfl
theorem zvSpot : (Tryz.prog.info? 188).map (·.zero) = some (some (.agg #[.int .i64 0, .int .i64 0])) := by kernel_rfl
theorem bSpot : bInfo Tryz.prog 188 = some (.agg #[.int .i64 0, .int .i64 0], [(0, some 1), (1, some 1)]) := by kernel_rfl
theorem z0Int (w : World) : (zeroValue 3).run Tryz.prog w = .ok (.int .i64 0) w := X8 (by kernel_rfl) w
theorem z0Adr (w : World) : (zeroValue 27).run Tryz.prog w = .ok (.int .u32 0) w := X8 (by kernel_rfl) w
abbrev adM (m : AdM) : List (Value × CT) := kvs spE adrF m
abbrev stM (m : StM) : List (Value × CT) := kvs spE intC m
abbrev viewC (e : Int) (m : AdM × StM) : CT := .fr (aggT [intC e, .fr (mapT (adM m.1)), .fr (mapT (stM m.2))])
theorem goHas : InGo Tryz.prog 129 := InGo.of Tryz.func129 rfl (by decide)
theorem Has_ok (e fl tt : Int) (m : AdM × StM) : Ok Tryz.prog 129 [viewC e m, intC fl, intC tt] (boolC (hasS m.2 fl tt)) := by
  have e0 : hasS m.2 fl tt = (decide ((look1 m.2 (fl, tt)).getD 0 = 2) || decide ((look1 m.2 (fl, tt)).getD 0 = 1)) := rfl
  refine Ok.enter Tryz.func129 rfl _ Tryz.ntmps129 rfl ?_
  intro S w
  (refine Qy (Qq fun K hK => ?_); refine XQ 0 rfl rfl rfl rfl rfl rfl rfl ?_; refine Qv rfl rfl rfl ?_; refine Qj (hK _ _ (Qx (Qy ?_))); clear hK K; refine Qq (fun K hK => ?_); refine QY rfl rfl rfl (by with_reducible first | exact fV0 | exact fV1 | exact fV2) rfl ?_; refine QJ rfl rfl rfl rfl rfl (by with_reducible first | exact lMSt | exact lMAd) rfl ?_; refine Qz rfl rfl rfl ?_; refine Qz rfl rfl rfl ?_)
  refine Qn rfl (by with_reducible exact bSpot) rfl (.one rfl rfl rfl rfl (.one rfl rfl rfl rfl .nil)) rfl ?_
  refine Ops.lookF (cv := intC) (enc := spE) 0 (fl, tt) rfl rfl rfl (KeyIs.agg (us := [.int .i64 fl, .int .i64 tt]) rfl) uMSt z0Int (fun _ _ => rfl) X0 rfl ?_
  generalize (look1 m.2 (fl, tt)).getD 0 = q at e0
  (refine Qv rfl rfl rfl ?_; refine Qj (hK _ _ (Qx (Qy ?_))); clear hK K; refine Qq (fun K hK => ?_); refine Qz rfl rfl rfl ?_; refine Qk ieql rfl rfl rfl rfl ?_; refine Qz rfl rfl rfl ?_)
  refine Qc 16 (p := q = 2) rfl (fun h => ?_) (fun h => ?_)
  · (refine Qw rfl rfl rfl ?_; refine Qw rfl rfl rfl ?_; refine QK rfl rfl rfl rfl ?_; refine Qv rfl rfl rfl ?_; refine Qj (hK _ _ (Qx (QU ?_))); clear hK K)
    refine QW [_] rfl (QQ rfl QX) (by rw [e0, decide_eq_true h, Bool.true_or]; rfl) rfl
  · (refine Qz rfl rfl rfl ?_; refine Qk ieql rfl rfl rfl rfl ?_; refine Q6 rfl rfl rfl rfl ?_; refine Qv rfl rfl rfl ?_; refine Qj (hK _ _ (Qx (QU ?_))); clear hK K)
    refine QW [_] rfl (QQ rfl QX) (by rw [e0, decide_eq_false h, Bool.false_or]; rfl) rfl
theorem goLook : InGo Tryz.prog 128 := InGo.of Tryz.func128 rfl (by decide)
set_option maxHeartbeats 8000000 in
theorem Look_ok (l : List Rs) (hl : l.length ≤ 100000) : Ok Tryz.prog 128 [rssC l] (viewC (endF l) (lookG l)) := by
  have hE := End_ok l hl
  have e0 : lookG l = l.foldl (lookS (endF l)) ([], []) := rfl
  rw [e0]
  clear e0
  generalize endF l = e at hE ⊢
  refine Ok.enter Tryz.func128 rfl _ Tryz.ntmps128 rfl ?_
  intro S w
  (refine Qy (Qq fun K hK => ?_); refine Qi 0 rfl rfl (by with_reducible exact zvView) rfl rfl rfl ?_; refine Qj (hK _ _ (Qx (Qy ?_))); clear hK K; refine Qq (fun K hK => ?_); refine Qz rfl rfl rfl ?_)
  refine QZ goEnd hE rfl rfl rfl rfl ?_
  refine Ops.mkMap 8 rfl rfl rfl rfl rfl (fun v1 hv1 => ?_)
  refine Ops.mkMap 9 rfl rfl rfl rfl rfl (fun v2 hv2 => ?_)
  refine Qn rfl (by with_reducible exact bView) rfl (.one rfl rfl rfl rfl (.one rfl rfl hv1 rfl (.one rfl rfl hv2 rfl .nil))) rfl ?_
  refine Qi 1 rfl rfl (by with_reducible exact zvView) rfl rfl rfl ?_
  refine Qb 3 rfl rfl rfl rfl (by show (true && (Value.oneCell' v1 && (Value.oneCell' v2 && true))) = true; rw [hv1, hv2]; rfl) (by with_reducible exact szView) rfl rfl ?_
  (refine Qj (hK _ _ (Qx (Qy (Qy ?_)))); clear hK K; refine Qq (fun K hK => ?_); refine Qz rfl rfl rfl ?_; refine Qd rfl rfl (by with_reducible exact sRes.und) (List.length_map ..) rfl ?_; refine Qz rfl rfl rfl ?_; refine Qj (hK _ _ (Qx (Q2 ?_))); clear hK K)
  refine Xz (α := Nat) (fun i => i ≤ l.length)
    (fun i => [(2, .own 0), (3, .own 1), (13, .ct (rssC l)), (14, .ct (intC l.length)), (15, .ct (intC i))])
    (fun i => [(1, .box 184 [intC e, .ex v1, .ex v2]), (9, .mpx v2 (stM ((l.take i).foldl (lookS e) ([], [])).2)), (8, .mpx v1 (adM ((l.take i).foldl (lookS e) ([], [])).1)), (0, .box 184 [intC 0, .ex (.map none), .ex (.map none)])])
    (fun i => l.length - i) 0 (Nat.zero_le _) (by exact Qu rfl ⟨rfl, rfl, rfl, rfl, rfl, trivial⟩) ?_
  intro i hi
  try dsimp only at hi ⊢
  (refine Qy (Qq fun K hK => ?_); refine Qk ilss rfl rfl rfl rfl ?_; refine Qj (hK _ _ (Qx (Qy ?_))); clear hK K)
  refine Q1 rfl (fun h => ?_) (fun h => ?_)
  · have e2 : (i : Int).toNat = i := Int.toNat_natCast i
    have hs := foldl_take (lookS e) ([], []) (z := rs0) (l := l) (i := i) (by omega)
    generalize (l.take i).foldl (lookS e) ([], []) = m at hs ⊢
    have next : ∀ m' : AdM × StM, lookS e m (l.getD i rs0) = m' → (l.take (i + 1)).foldl (lookS e) ([], []) = m' := fun m' h => by rw [hs, h]
    clear hs
    refine Q0 ?_
    refine Qx ?_
    refine Qy ?_
    refine Zf (α := AdM × StM) (fun q => lookS e m (l.getD i rs0) = q) (fun _ => [(2, .own 0), (3, .own 1), (13, .ct (rssC l)), (14, .ct (intC l.length)), (15, .ct (intC i))])
      (fun q => [(1, .box 184 [intC e, .ex v1, .ex v2]), (9, .mpx v2 (stM q.2)), (8, .mpx v1 (adM q.1)), (0, .box 184 [intC 0, .ex (.map none), .ex (.map none)])]) (fun q hq => ?_) (fun KN hM => ?_)
    · have en := next q hq
      (refine Qq (fun K hK => ?_); refine Qk (iadd (by omega) (by omega)) rfl rfl rfl rfl ?_; refine Qz rfl rfl rfl ?_; refine Qj (hK _ _ (Q4 ?_)); clear hK K)
      refine Q9 (i + 1) (by omega) (by omega) (by rw [en]; exact Qu rfl ⟨rfl, rfl, rfl, rfl, by simp only [Int.natCast_add]; rfl, trivial⟩)
    clear next
    refine Q2 ?_
    refine Qy ?_
    refine Qq (fun K hK => ?_)
    refine Qm rfl rfl rfl (by with_reducible exact sRes) (by omega) (rss_at (by omega) (by omega)) rfl ?_
    rw [e2]
    generalize l.getD i rs0 = c at hM ⊢
    refine Xr (n := 17) rfl rfl rfl (by with_reducible exact lRes) rfl rfl ?_
    refine Qi 2 rfl rfl (by with_reducible exact zvRes) rfl rfl rfl ?_
    refine Qb 17 rfl rfl rfl rfl rfl (by with_reducible exact szRes) rfl rfl ?_
    refine Qj (hK _ _ ?_)
    clear hK K
    refine Qx ?_
    have hU := Usable_ok c
    have es : lookS e m c = if usR c = false ∨ (0 < e ∧ e < c.tt) then m
      else if c.an = false then (m.1, ins m.2 (c.fl, c.tt) (max ((look1 m.2 (c.fl, c.tt)).getD 0) 1))
      else if (look1 m.2 (c.fl, c.tt)).getD 0 ≤ 1 then (ins m.1 (c.fl, c.tt) c.fr, ins m.2 (c.fl, c.tt) 2)
      else if (look1 m.2 (c.fl, c.tt)).getD 0 = 2 ∧ (look1 m.1 (c.fl, c.tt)).getD 0 ≠ c.fr then (ins m.1 (c.fl, c.tt) 0, ins m.2 (c.fl, c.tt) 3)
      else m := rfl
    generalize usR c = ub at hU es
    refine Qy ?_
    refine Qy ?_
    refine Zf (α := Bool) (fun b => b = true ↔ (ub = false ∨ (0 < e ∧ e < c.tt)))
      (fun b => [(2, .own 0), (3, .own 1), (5, .own 2), (13, .ct (rssC l)), (14, .ct (intC l.length)), (15, .ct (intC i)), (33, .ct (boolC b))])
      (fun _ => [(2, .box 35 (rsCs c)), (1, .box 184 [intC e, .ex v1, .ex v2]), (9, .mpx v2 (stM m.2)), (8, .mpx v1 (adM m.1)), (0, .box 184 [intC 0, .ex (.map none), .ex (.map none)])]) (fun b hb => ?_) (fun KK hN => ?_)
    rotate_left
    · (refine Qq (fun K hK => ?_); refine Q8 (n := 17) rfl rfl rfl rfl rfl (by with_reducible exact lRes) rfl ?_)
      refine QZ goUsable hU rfl rfl rfl rfl ?_
      (refine Qs rfl rfl rfl ?_; refine Qz rfl rfl rfl ?_)
      refine ZZ 22 (b := !ub) rfl (fun h1 => ?_) (fun h1 => ?_)
      · (refine Qw rfl rfl rfl ?_; refine Qw rfl rfl rfl ?_; refine Qw rfl rfl rfl ?_; refine Qw rfl rfl rfl ?_; refine Qw rfl rfl rfl ?_; refine Qw rfl rfl rfl ?_; refine Qw rfl rfl rfl ?_; refine Qw rfl rfl rfl ?_; refine Qw rfl rfl rfl ?_; refine Qw rfl rfl rfl ?_; refine QK rfl rfl rfl rfl ?_; refine Qj (hK _ _ ?_); clear hK K)
        exact Xq hN true (iff_of_true rfl (.inl (by simpa using h1))) (by exact Qu rfl ⟨rfl, rfl, rfl, rfl, rfl, rfl, rfl, trivial⟩)
      · have hub : ub = true := by simpa using h1
        (refine QY rfl rfl rfl (by with_reducible first | exact fV0 | exact fV1 | exact fV2) rfl ?_; refine QJ rfl rfl rfl rfl rfl (by with_reducible first | exact lInt | exact Qh | exact Qf | exact lRess) rfl ?_; refine Qk igtr rfl rfl rfl rfl ?_; refine Qz rfl rfl rfl ?_)
        refine Qc 26 (p := 0 < e) rfl (fun h3 => ?_) (fun h3 => ?_)
        · (refine QY rfl rfl rfl (by with_reducible first | exact fS0 | exact fS1 | exact fS2 | exact fS3 | exact fS4 | exact fS5 | exact fS6 | exact fS7 | exact fS8 | exact fS9 | exact fS10 | exact fS11 | exact fN0 | exact fN1 | exact fN2 | exact fN3 | exact fN4 | exact fN5) rfl ?_; refine QJ rfl rfl rfl rfl rfl (by with_reducible first | exact lInt | exact Qh | exact Qf | exact lRess) rfl ?_; refine QY rfl rfl rfl (by with_reducible first | exact fV0 | exact fV1 | exact fV2) rfl ?_; refine QJ rfl rfl rfl rfl rfl (by with_reducible first | exact lInt | exact Qh | exact Qf | exact lRess) rfl ?_; refine Qk igtr rfl rfl rfl rfl ?_; refine QK rfl rfl rfl rfl ?_; refine Q6 rfl rfl rfl rfl ?_; refine Qj (hK _ _ ?_); clear hK K)
          exact Xq hN (decide (e < c.tt)) (by rw [decide_eq_true_iff]; constructor; exact fun h => .inr ⟨h3, h⟩; exact fun h => h.elim (fun h => by rw [hub] at h; cases h) (·.2)) (by exact Qu rfl ⟨rfl, rfl, rfl, rfl, rfl, rfl, rfl, trivial⟩)
        · (refine Qw rfl rfl rfl ?_; refine Qw rfl rfl rfl ?_; refine Qw rfl rfl rfl ?_; refine Qw rfl rfl rfl ?_; refine Qw rfl rfl rfl ?_; refine Q6 rfl rfl rfl rfl ?_; refine Q6 rfl rfl rfl rfl ?_; refine Qj (hK _ _ ?_); clear hK K)
          exact Xq hN false (iff_of_false (by decide) (fun h => h.elim (fun h => by rw [hub] at h; cases h) (fun h => h3 h.1))) (by exact Qu rfl ⟨rfl, rfl, rfl, rfl, rfl, rfl, rfl, trivial⟩)
    cases b with
    | true =>
      have es : lookS e m c = m := by rw [es, if_pos (hb.1 rfl)]
      (refine Qt rfl (Qo (Fin.thenExit (Fin.blockE ?_))))
      exact Xq hM _ es (Q7 2 (by exact Qu rfl ⟨rfl, rfl, rfl, rfl, rfl, trivial⟩))
    | false =>
      rw [if_neg (fun h => by have := hb.2 h; cases this)] at es
      (refine Xy rfl (Q0 (Qx (Qy (Qq fun K hK => ?_)))); refine QY rfl rfl rfl (by with_reducible first | exact fS0 | exact fS1 | exact fS2 | exact fS3 | exact fS4 | exact fS5 | exact fS6 | exact fS7 | exact fS8 | exact fS9 | exact fS10 | exact fS11 | exact fN0 | exact fN1 | exact fN2 | exact fN3 | exact fN4 | exact fN5) rfl ?_; refine QJ rfl rfl rfl rfl rfl (by with_reducible first | exact lInt | exact Qh | exact Qf | exact lRess) rfl ?_; refine QY rfl rfl rfl (by with_reducible first | exact fS0 | exact fS1 | exact fS2 | exact fS3 | exact fS4 | exact fS5 | exact fS6 | exact fS7 | exact fS8 | exact fS9 | exact fS10 | exact fS11 | exact fN0 | exact fN1 | exact fN2 | exact fN3 | exact fN4 | exact fN5) rfl ?_; refine QJ rfl rfl rfl rfl rfl (by with_reducible first | exact lInt | exact Qh | exact Qf | exact lRess) rfl ?_)
      refine Qn rfl (by with_reducible exact bSpot) rfl (.one rfl rfl rfl rfl (.one rfl rfl rfl rfl .nil)) rfl ?_
      refine Qi 3 rfl rfl (by with_reducible exact zvSpot) rfl rfl rfl ?_
      (refine Qb 2 rfl rfl rfl rfl rfl (by with_reducible exact szSpot) rfl rfl ?_; refine Qj (hK _ _ (Qx (Qy ?_))); clear hK K; refine Qq (fun K hK => ?_); refine QY rfl rfl rfl (by with_reducible first | exact fV0 | exact fV1 | exact fV2) rfl ?_; refine QJ rfl rfl rfl rfl rfl (by with_reducible first | exact lMSt | exact lMAd) rfl ?_; refine Q8 (n := 2) rfl rfl rfl rfl rfl (by with_reducible exact Zg) rfl ?_)
      refine Ops.lookM (i := 9) (cv := intC) (enc := spE) 0 (c.fl, c.tt) rfl rfl rfl rfl (KeyIs.agg (us := [.int .i64 c.fl, .int .i64 c.tt]) rfl) uMSt z0Int (fun _ _ => rfl) X0 rfl ?_
      generalize (look1 m.2 (c.fl, c.tt)).getD 0 = kn at es ⊢
      (refine Qv rfl rfl rfl ?_; refine Qj (hK _ _ (Qx (Q2 (Qy ?_)))); clear hK K; refine Qq (fun K hK => ?_); refine QY rfl rfl rfl (by with_reducible first | exact fS0 | exact fS1 | exact fS2 | exact fS3 | exact fS4 | exact fS5 | exact fS6 | exact fS7 | exact fS8 | exact fS9 | exact fS10 | exact fS11 | exact fN0 | exact fN1 | exact fN2 | exact fN3 | exact fN4 | exact fN5) rfl ?_; refine QJ rfl rfl rfl rfl rfl (by with_reducible first | exact lInt | exact Qh | exact Qf | exact lRess) rfl ?_; refine Qs rfl rfl rfl ?_; refine Qv rfl rfl rfl ?_; refine Qj (hK _ _ (Qx ?_)); clear hK K)
      refine XK rfl (fun h1 => ?_) (fun h1 => ?_)
      · have h1' : c.an = false := by simpa using h1
        rw [if_pos h1'] at es
        (refine Qq (fun K hK => ?_); refine QY rfl rfl rfl (by with_reducible first | exact fV0 | exact fV1 | exact fV2) rfl ?_; refine QJ rfl rfl rfl rfl rfl (by with_reducible first | exact lMSt | exact lMAd) rfl ?_; refine Q8 (n := 2) rfl rfl rfl rfl rfl (by with_reducible exact Zg) rfl ?_; refine Qz rfl rfl rfl ?_; refine Ops.max2 rfl rfl rfl rfl ?_)
        refine Qp (i := 9) (enc := spE) (cv := intC) (c.fl, c.tt) (max kn 1) rfl rfl rfl (KeyIs.agg (us := [.int .i64 c.fl, .int .i64 c.tt]) rfl) rfl uMSt X0 ?_
        (refine Qj (hK _ _ (Q3 (Q3 ?_))); clear hK K)
        exact Xq hM _ es (Q7 3 (Q7 2 (by exact Qu rfl ⟨rfl, rfl, rfl, rfl, rfl, trivial⟩)))
      · have h1' : c.an = true := by simpa using h1
        rw [if_neg (fun h => by rw [h1'] at h; cases h)] at es
        (refine Qy (Qq fun K hK => ?_); refine Qz rfl rfl rfl ?_; refine Qk ileq rfl rfl rfl rfl ?_; refine Qv rfl rfl rfl ?_; refine Qj (hK _ _ (Qx ?_)); clear hK K)
        refine Q1 rfl (fun h2 => ?_) (fun h2 => ?_)
        · rw [if_pos h2] at es
          refine St.drawQ (by with_reducible exact mixed) [9, 10] (.p 0 (.p 3 (.p 6 (.p 7 (.f 1 (.f 2 (.m 4 (.m 5 (.m 8 (.a 9 (.a 10 .done .non) .non) (.a 9 (.f 8 (.a 10 .done .non)) .non)) (.m 8 (.m 5 (.a 9 (.a 10 .done .non) .non) (.a 9 (.f 5 (.a 10 .done .non)) .non)) (.a 9 (.f 5 (.f 8 (.a 10 .done .non))) .non))) (.m 5 (.m 4 (.m 8 (.a 9 (.a 10 .done .non) .non) (.a 9 (.f 8 (.a 10 .done .non)) .non)) (.m 8 (.m 4 (.a 9 (.a 10 .done .non) .non) (.a 9 (.f 4 (.a 10 .done .non)) .non)) (.a 9 (.f 4 (.f 8 (.a 10 .done .non))) .non))) (.m 8 (.m 4 (.m 5 (.a 9 (.a 10 .done .non) .non) (.a 9 (.f 5 (.a 10 .done .non)) .non)) (.m 5 (.m 4 (.a 9 (.a 10 .done .non) .non) (.a 9 (.f 4 (.a 10 .done .non)) .non)) (.a 9 (.f 4 (.f 5 (.a 10 .done .non))) .non))) (.a 9 (.f 4 (.f 5 (.f 8 (.a 10 .done .non)))) .non)))))))))) (by kernel_rfl) (fun K hK => ?_)
          refine ZY ?_
          refine QY rfl rfl rfl (by with_reducible exact fV2) rfl ?_
          refine Qj ?_
          refine ZY ?_
          refine QY rfl rfl rfl (by with_reducible exact fV1) rfl ?_
          refine Qj ?_
          refine ZY ?_
          refine QY rfl rfl rfl (by with_reducible exact fS11) rfl ?_
          refine Qj ?_
          refine ZY ?_
          refine Z8 rfl rfl (by with_reducible exact fN0) rfl ?_
          refine Qj ?_
          refine X9 ?_
          refine QJ rfl rfl rfl rfl rfl (by with_reducible exact lMSt) rfl ?_
          refine Qj ?_
          refine X9 ?_
          refine Q8 (n := 2) rfl rfl rfl rfl rfl (by with_reducible exact Zg) rfl ?_
          refine Qj ?_
          refine Xm ?_ ?_
          · refine QJ rfl rfl rfl rfl rfl (by with_reducible exact lMAd) rfl ?_
            refine Qj ?_
            refine Xm ?_ ?_
            · refine Q8 (n := 2) rfl rfl rfl rfl rfl (by with_reducible exact Zg) rfl ?_
              refine Qj ?_
              refine Xm ?_ ?_
              · refine QJ rfl rfl rfl rfl rfl (by with_reducible exact Qh) rfl ?_
                refine Qj ?_
                refine Xw ?_ Ql
                refine Qp (i := 9) (enc := spE) (cv := intC) (c.fl, c.tt) 2 rfl rfl rfl (KeyIs.agg (us := [.int .i64 c.fl, .int .i64 c.tt]) rfl) rfl uMSt X0 ?_
                refine Qj ?_
                refine Xw ?_ Ql
                refine Qp (i := 8) (enc := spE) (cv := adrF) (c.fl, c.tt) c.fr rfl rfl rfl (KeyIs.agg (us := [.int .i64 c.fl, .int .i64 c.tt]) rfl) rfl uMAd X0 ?_
                refine Qj ?_
                refine Xu (hK _ _ ?_)
                (refine Q3 (Q3 ?_))
                exact Xq hM _ es (Q7 3 (Q7 2 (by exact Qu rfl ⟨rfl, rfl, rfl, rfl, rfl, trivial⟩)))
              refine Xw ?_ Ql
              refine Qp (i := 9) (enc := spE) (cv := intC) (c.fl, c.tt) 2 rfl rfl rfl (KeyIs.agg (us := [.int .i64 c.fl, .int .i64 c.tt]) rfl) rfl uMSt X0 ?_
              refine Qj ?_
              refine X9 ?_
              refine QJ rfl rfl rfl rfl rfl (by with_reducible exact Qh) rfl ?_
              refine Qj ?_
              refine Xw ?_ Ql
              refine Qp (i := 8) (enc := spE) (cv := adrF) (c.fl, c.tt) c.fr rfl rfl rfl (KeyIs.agg (us := [.int .i64 c.fl, .int .i64 c.tt]) rfl) rfl uMAd X0 ?_
              refine Qj ?_
              refine Xu (hK _ _ ?_)
              (refine Q3 (Q3 ?_))
              exact Xq hM _ es (Q7 3 (Q7 2 (by exact Qu rfl ⟨rfl, rfl, rfl, rfl, rfl, trivial⟩)))
            refine Xm ?_ ?_
            · refine QJ rfl rfl rfl rfl rfl (by with_reducible exact Qh) rfl ?_
              refine Qj ?_
              refine Xm ?_ ?_
              · refine Q8 (n := 2) rfl rfl rfl rfl rfl (by with_reducible exact Zg) rfl ?_
                refine Qj ?_
                refine Xw ?_ Ql
                refine Qp (i := 9) (enc := spE) (cv := intC) (c.fl, c.tt) 2 rfl rfl rfl (KeyIs.agg (us := [.int .i64 c.fl, .int .i64 c.tt]) rfl) rfl uMSt X0 ?_
                refine Qj ?_
                refine Xw ?_ Ql
                refine Qp (i := 8) (enc := spE) (cv := adrF) (c.fl, c.tt) c.fr rfl rfl rfl (KeyIs.agg (us := [.int .i64 c.fl, .int .i64 c.tt]) rfl) rfl uMAd X0 ?_
                refine Qj ?_
                refine Xu (hK _ _ ?_)
                (refine Q3 (Q3 ?_))
                exact Xq hM _ es (Q7 3 (Q7 2 (by exact Qu rfl ⟨rfl, rfl, rfl, rfl, rfl, trivial⟩)))
              refine Xw ?_ Ql
              refine Qp (i := 9) (enc := spE) (cv := intC) (c.fl, c.tt) 2 rfl rfl rfl (KeyIs.agg (us := [.int .i64 c.fl, .int .i64 c.tt]) rfl) rfl uMSt X0 ?_
              refine Qj ?_
              refine X9 ?_
              refine Q8 (n := 2) rfl rfl rfl rfl rfl (by with_reducible exact Zg) rfl ?_
              refine Qj ?_
              refine Xw ?_ Ql
              refine Qp (i := 8) (enc := spE) (cv := adrF) (c.fl, c.tt) c.fr rfl rfl rfl (KeyIs.agg (us := [.int .i64 c.fl, .int .i64 c.tt]) rfl) rfl uMAd X0 ?_
              refine Qj ?_
              refine Xu (hK _ _ ?_)
              (refine Q3 (Q3 ?_))
              exact Xq hM _ es (Q7 3 (Q7 2 (by exact Qu rfl ⟨rfl, rfl, rfl, rfl, rfl, trivial⟩)))
            refine Xw ?_ Ql
            refine Qp (i := 9) (enc := spE) (cv := intC) (c.fl, c.tt) 2 rfl rfl rfl (KeyIs.agg (us := [.int .i64 c.fl, .int .i64 c.tt]) rfl) rfl uMSt X0 ?_
            refine Qj ?_
            refine X9 ?_
            refine Q8 (n := 2) rfl rfl rfl rfl rfl (by with_reducible exact Zg) rfl ?_
            refine Qj ?_
            refine X9 ?_
            refine QJ rfl rfl rfl rfl rfl (by with_reducible exact Qh) rfl ?_
            refine Qj ?_
            refine Xw ?_ Ql
            refine Qp (i := 8) (enc := spE) (cv := adrF) (c.fl, c.tt) c.fr rfl rfl rfl (KeyIs.agg (us := [.int .i64 c.fl, .int .i64 c.tt]) rfl) rfl uMAd X0 ?_
            refine Qj ?_
            refine Xu (hK _ _ ?_)
            (refine Q3 (Q3 ?_))
            exact Xq hM _ es (Q7 3 (Q7 2 (by exact Qu rfl ⟨rfl, rfl, rfl, rfl, rfl, trivial⟩)))
          refine Xm ?_ ?_
          · refine Q8 (n := 2) rfl rfl rfl rfl rfl (by with_reducible exact Zg) rfl ?_
            refine Qj ?_
            refine Xm ?_ ?_
            · refine QJ rfl rfl rfl rfl rfl (by with_reducible exact lMAd) rfl ?_
              refine Qj ?_
              refine Xm ?_ ?_
              · refine QJ rfl rfl rfl rfl rfl (by with_reducible exact Qh) rfl ?_
                refine Qj ?_
                refine Xw ?_ Ql
                refine Qp (i := 9) (enc := spE) (cv := intC) (c.fl, c.tt) 2 rfl rfl rfl (KeyIs.agg (us := [.int .i64 c.fl, .int .i64 c.tt]) rfl) rfl uMSt X0 ?_
                refine Qj ?_
                refine Xw ?_ Ql
                refine Qp (i := 8) (enc := spE) (cv := adrF) (c.fl, c.tt) c.fr rfl rfl rfl (KeyIs.agg (us := [.int .i64 c.fl, .int .i64 c.tt]) rfl) rfl uMAd X0 ?_
                refine Qj ?_
                refine Xu (hK _ _ ?_)
                (refine Q3 (Q3 ?_))
                exact Xq hM _ es (Q7 3 (Q7 2 (by exact Qu rfl ⟨rfl, rfl, rfl, rfl, rfl, trivial⟩)))
              refine Xw ?_ Ql
              refine Qp (i := 9) (enc := spE) (cv := intC) (c.fl, c.tt) 2 rfl rfl rfl (KeyIs.agg (us := [.int .i64 c.fl, .int .i64 c.tt]) rfl) rfl uMSt X0 ?_
              refine Qj ?_
              refine X9 ?_
              refine QJ rfl rfl rfl rfl rfl (by with_reducible exact Qh) rfl ?_
              refine Qj ?_
              refine Xw ?_ Ql
              refine Qp (i := 8) (enc := spE) (cv := adrF) (c.fl, c.tt) c.fr rfl rfl rfl (KeyIs.agg (us := [.int .i64 c.fl, .int .i64 c.tt]) rfl) rfl uMAd X0 ?_
              refine Qj ?_
              refine Xu (hK _ _ ?_)
              (refine Q3 (Q3 ?_))
              exact Xq hM _ es (Q7 3 (Q7 2 (by exact Qu rfl ⟨rfl, rfl, rfl, rfl, rfl, trivial⟩)))
            refine Xm ?_ ?_
            · refine QJ rfl rfl rfl rfl rfl (by with_reducible exact Qh) rfl ?_
              refine Qj ?_
              refine Xm ?_ ?_
              · refine QJ rfl rfl rfl rfl rfl (by with_reducible exact lMAd) rfl ?_
                refine Qj ?_
                refine Xw ?_ Ql
                refine Qp (i := 9) (enc := spE) (cv := intC) (c.fl, c.tt) 2 rfl rfl rfl (KeyIs.agg (us := [.int .i64 c.fl, .int .i64 c.tt]) rfl) rfl uMSt X0 ?_
                refine Qj ?_
                refine Xw ?_ Ql
                refine Qp (i := 8) (enc := spE) (cv := adrF) (c.fl, c.tt) c.fr rfl rfl rfl (KeyIs.agg (us := [.int .i64 c.fl, .int .i64 c.tt]) rfl) rfl uMAd X0 ?_
                refine Qj ?_
                refine Xu (hK _ _ ?_)
                (refine Q3 (Q3 ?_))
                exact Xq hM _ es (Q7 3 (Q7 2 (by exact Qu rfl ⟨rfl, rfl, rfl, rfl, rfl, trivial⟩)))
              refine Xw ?_ Ql
              refine Qp (i := 9) (enc := spE) (cv := intC) (c.fl, c.tt) 2 rfl rfl rfl (KeyIs.agg (us := [.int .i64 c.fl, .int .i64 c.tt]) rfl) rfl uMSt X0 ?_
              refine Qj ?_
              refine X9 ?_
              refine QJ rfl rfl rfl rfl rfl (by with_reducible exact lMAd) rfl ?_
              refine Qj ?_
              refine Xw ?_ Ql
              refine Qp (i := 8) (enc := spE) (cv := adrF) (c.fl, c.tt) c.fr rfl rfl rfl (KeyIs.agg (us := [.int .i64 c.fl, .int .i64 c.tt]) rfl) rfl uMAd X0 ?_
              refine Qj ?_
              refine Xu (hK _ _ ?_)
              (refine Q3 (Q3 ?_))
              exact Xq hM _ es (Q7 3 (Q7 2 (by exact Qu rfl ⟨rfl, rfl, rfl, rfl, rfl, trivial⟩)))
            refine Xw ?_ Ql
            refine Qp (i := 9) (enc := spE) (cv := intC) (c.fl, c.tt) 2 rfl rfl rfl (KeyIs.agg (us := [.int .i64 c.fl, .int .i64 c.tt]) rfl) rfl uMSt X0 ?_
            refine Qj ?_
            refine X9 ?_
            refine QJ rfl rfl rfl rfl rfl (by with_reducible exact lMAd) rfl ?_
            refine Qj ?_
            refine X9 ?_
            refine QJ rfl rfl rfl rfl rfl (by with_reducible exact Qh) rfl ?_
            refine Qj ?_
            refine Xw ?_ Ql
            refine Qp (i := 8) (enc := spE) (cv := adrF) (c.fl, c.tt) c.fr rfl rfl rfl (KeyIs.agg (us := [.int .i64 c.fl, .int .i64 c.tt]) rfl) rfl uMAd X0 ?_
            refine Qj ?_
            refine Xu (hK _ _ ?_)
            (refine Q3 (Q3 ?_))
            exact Xq hM _ es (Q7 3 (Q7 2 (by exact Qu rfl ⟨rfl, rfl, rfl, rfl, rfl, trivial⟩)))
          refine Xm ?_ ?_
          · refine QJ rfl rfl rfl rfl rfl (by with_reducible exact Qh) rfl ?_
            refine Qj ?_
            refine Xm ?_ ?_
            · refine QJ rfl rfl rfl rfl rfl (by with_reducible exact lMAd) rfl ?_
              refine Qj ?_
              refine Xm ?_ ?_
              · refine Q8 (n := 2) rfl rfl rfl rfl rfl (by with_reducible exact Zg) rfl ?_
                refine Qj ?_
                refine Xw ?_ Ql
                refine Qp (i := 9) (enc := spE) (cv := intC) (c.fl, c.tt) 2 rfl rfl rfl (KeyIs.agg (us := [.int .i64 c.fl, .int .i64 c.tt]) rfl) rfl uMSt X0 ?_
                refine Qj ?_
                refine Xw ?_ Ql
                refine Qp (i := 8) (enc := spE) (cv := adrF) (c.fl, c.tt) c.fr rfl rfl rfl (KeyIs.agg (us := [.int .i64 c.fl, .int .i64 c.tt]) rfl) rfl uMAd X0 ?_
                refine Qj ?_
                refine Xu (hK _ _ ?_)
                (refine Q3 (Q3 ?_))
                exact Xq hM _ es (Q7 3 (Q7 2 (by exact Qu rfl ⟨rfl, rfl, rfl, rfl, rfl, trivial⟩)))
              refine Xw ?_ Ql
              refine Qp (i := 9) (enc := spE) (cv := intC) (c.fl, c.tt) 2 rfl rfl rfl (KeyIs.agg (us := [.int .i64 c.fl, .int .i64 c.tt]) rfl) rfl uMSt X0 ?_
              refine Qj ?_
              refine X9 ?_
              refine Q8 (n := 2) rfl rfl rfl rfl rfl (by with_reducible exact Zg) rfl ?_
              refine Qj ?_
              refine Xw ?_ Ql
              refine Qp (i := 8) (enc := spE) (cv := adrF) (c.fl, c.tt) c.fr rfl rfl rfl (KeyIs.agg (us := [.int .i64 c.fl, .int .i64 c.tt]) rfl) rfl uMAd X0 ?_
              refine Qj ?_
              refine Xu (hK _ _ ?_)
              (refine Q3 (Q3 ?_))
              exact Xq hM _ es (Q7 3 (Q7 2 (by exact Qu rfl ⟨rfl, rfl, rfl, rfl, rfl, trivial⟩)))
            refine Xm ?_ ?_
            · refine Q8 (n := 2) rfl rfl rfl rfl rfl (by with_reducible exact Zg) rfl ?_
              refine Qj ?_
              refine Xm ?_ ?_
              · refine QJ rfl rfl rfl rfl rfl (by with_reducible exact lMAd) rfl ?_
                refine Qj ?_
                refine Xw ?_ Ql
                refine Qp (i := 9) (enc := spE) (cv := intC) (c.fl, c.tt) 2 rfl rfl rfl (KeyIs.agg (us := [.int .i64 c.fl, .int .i64 c.tt]) rfl) rfl uMSt X0 ?_
                refine Qj ?_
                refine Xw ?_ Ql
                refine Qp (i := 8) (enc := spE) (cv := adrF) (c.fl, c.tt) c.fr rfl rfl rfl (KeyIs.agg (us := [.int .i64 c.fl, .int .i64 c.tt]) rfl) rfl uMAd X0 ?_
                refine Qj ?_
                refine Xu (hK _ _ ?_)
                (refine Q3 (Q3 ?_))
                exact Xq hM _ es (Q7 3 (Q7 2 (by exact Qu rfl ⟨rfl, rfl, rfl, rfl, rfl, trivial⟩)))
              refine Xw ?_ Ql
              refine Qp (i := 9) (enc := spE) (cv := intC) (c.fl, c.tt) 2 rfl rfl rfl (KeyIs.agg (us := [.int .i64 c.fl, .int .i64 c.tt]) rfl) rfl uMSt X0 ?_
              refine Qj ?_
              refine X9 ?_
              refine QJ rfl rfl rfl rfl rfl (by with_reducible exact lMAd) rfl ?_
              refine Qj ?_
              refine Xw ?_ Ql
              refine Qp (i := 8) (enc := spE) (cv := adrF) (c.fl, c.tt) c.fr rfl rfl rfl (KeyIs.agg (us := [.int .i64 c.fl, .int .i64 c.tt]) rfl) rfl uMAd X0 ?_
              refine Qj ?_
              refine Xu (hK _ _ ?_)
              (refine Q3 (Q3 ?_))
              exact Xq hM _ es (Q7 3 (Q7 2 (by exact Qu rfl ⟨rfl, rfl, rfl, rfl, rfl, trivial⟩)))
            refine Xw ?_ Ql
            refine Qp (i := 9) (enc := spE) (cv := intC) (c.fl, c.tt) 2 rfl rfl rfl (KeyIs.agg (us := [.int .i64 c.fl, .int .i64 c.tt]) rfl) rfl uMSt X0 ?_
            refine Qj ?_
            refine X9 ?_
            refine QJ rfl rfl rfl rfl rfl (by with_reducible exact lMAd) rfl ?_
            refine Qj ?_
            refine X9 ?_
            refine Q8 (n := 2) rfl rfl rfl rfl rfl (by with_reducible exact Zg) rfl ?_
            refine Qj ?_
            refine Xw ?_ Ql
            refine Qp (i := 8) (enc := spE) (cv := adrF) (c.fl, c.tt) c.fr rfl rfl rfl (KeyIs.agg (us := [.int .i64 c.fl, .int .i64 c.tt]) rfl) rfl uMAd X0 ?_
            refine Qj ?_
            refine Xu (hK _ _ ?_)
            (refine Q3 (Q3 ?_))
            exact Xq hM _ es (Q7 3 (Q7 2 (by exact Qu rfl ⟨rfl, rfl, rfl, rfl, rfl, trivial⟩)))
          refine Xw ?_ Ql
          refine Qp (i := 9) (enc := spE) (cv := intC) (c.fl, c.tt) 2 rfl rfl rfl (KeyIs.agg (us := [.int .i64 c.fl, .int .i64 c.tt]) rfl) rfl uMSt X0 ?_
          refine Qj ?_
          refine X9 ?_
          refine QJ rfl rfl rfl rfl rfl (by with_reducible exact lMAd) rfl ?_
          refine Qj ?_
          refine X9 ?_
          refine Q8 (n := 2) rfl rfl rfl rfl rfl (by with_reducible exact Zg) rfl ?_
          refine Qj ?_
          refine X9 ?_
          refine QJ rfl rfl rfl rfl rfl (by with_reducible exact Qh) rfl ?_
          refine Qj ?_
          refine Xw ?_ Ql
          refine Qp (i := 8) (enc := spE) (cv := adrF) (c.fl, c.tt) c.fr rfl rfl rfl (KeyIs.agg (us := [.int .i64 c.fl, .int .i64 c.tt]) rfl) rfl uMAd X0 ?_
          refine Qj ?_
          refine Xu (hK _ _ ?_)
          (refine Q3 (Q3 ?_))
          exact Xq hM _ es (Q7 3 (Q7 2 (by exact Qu rfl ⟨rfl, rfl, rfl, rfl, rfl, trivial⟩)))
        · rw [if_neg h2] at es
          refine Qy ?_
          refine XJ (by with_reducible exact mixed) 13 (.p 0 (.p 1 (.p 2 (.p 3 (.p 7 (.p 8 (.f 4 (.f 5 (.f 6 (.f 9 (.p 10 (.p 11 (.p 12 .done))))))))))))) (by kernel_rfl) (fun K hK => ?_)
          (refine Qz rfl rfl rfl ?_; refine Qk ieql rfl rfl rfl rfl ?_; refine Qz rfl rfl rfl ?_)
          refine Qc 67 (p := kn = 2) rfl (fun h3 => ?_) (fun h3 => ?_)
          · (refine QY rfl rfl rfl (by with_reducible first | exact fV0 | exact fV1 | exact fV2) rfl ?_; refine QY rfl rfl rfl (by with_reducible first | exact fS0 | exact fS1 | exact fS2 | exact fS3 | exact fS4 | exact fS5 | exact fS6 | exact fS7 | exact fS8 | exact fS9 | exact fS10 | exact fS11 | exact fN0 | exact fN1 | exact fN2 | exact fN3 | exact fN4 | exact fN5) rfl ?_; refine Z8 rfl rfl (by with_reducible first | exact fN0 | exact fN1 | exact fN2 | exact fN3 | exact fN4 | exact fN5) rfl ?_; refine QJ rfl rfl rfl rfl rfl (by with_reducible first | exact lMSt | exact lMAd) rfl ?_; refine Q8 (n := 2) rfl rfl rfl rfl rfl (by with_reducible exact Zg) rfl ?_)
            refine Ops.lookM (i := 8) (cv := adrF) (enc := spE) 0 (c.fl, c.tt) rfl rfl rfl rfl (KeyIs.agg (us := [.int .i64 c.fl, .int .i64 c.tt]) rfl) uMAd z0Adr (fun _ _ => rfl) X0 rfl ?_
            generalize (look1 m.1 (c.fl, c.tt)).getD 0 = a at es ⊢
            (refine QJ rfl rfl rfl rfl rfl (by with_reducible first | exact lInt | exact Qh | exact Qf | exact lRess) rfl ?_; refine Qk ineq rfl rfl rfl rfl ?_; refine QK rfl rfl rfl rfl ?_; refine Qv rfl rfl rfl ?_; refine Qj (hK _ _ (Qx ?_)); clear hK K)
            refine Q1 rfl (fun h4 => ?_) (fun h4 => ?_)
            · rw [if_pos ⟨h3, fun h => h4 (by rw [h])⟩] at es
              refine St.drawQ (by with_reducible exact mixed) [6, 7] (.p 0 (.p 3 (.f 1 (.f 2 (.m 4 (.m 5 (.a 6 (.a 7 .done .non) .non) (.a 6 (.f 5 (.a 7 .done .non)) .non)) (.m 5 (.m 4 (.a 6 (.a 7 .done .non) .non) (.a 6 (.f 4 (.a 7 .done .non)) .non)) (.a 6 (.f 4 (.f 5 (.a 7 .done .non))) .non))))))) (by kernel_rfl) (fun K hK => ?_)
              refine ZY ?_
              refine QY rfl rfl rfl (by with_reducible exact fV2) rfl ?_
              refine Qj ?_
              refine ZY ?_
              refine QY rfl rfl rfl (by with_reducible exact fV1) rfl ?_
              refine Qj ?_
              refine X9 ?_
              refine QJ rfl rfl rfl rfl rfl (by with_reducible exact lMSt) rfl ?_
              refine Qj ?_
              refine X9 ?_
              refine Q8 (n := 2) rfl rfl rfl rfl rfl (by with_reducible exact Zg) rfl ?_
              refine Qj ?_
              refine Xm ?_ ?_
              · refine QJ rfl rfl rfl rfl rfl (by with_reducible exact lMAd) rfl ?_
                refine Qj ?_
                refine Xm ?_ ?_
                · refine Q8 (n := 2) rfl rfl rfl rfl rfl (by with_reducible exact Zg) rfl ?_
                  refine Qj ?_
                  refine Xw ?_ Ql
                  refine Qp (i := 9) (enc := spE) (cv := intC) (c.fl, c.tt) 3 rfl rfl rfl (KeyIs.agg (us := [.int .i64 c.fl, .int .i64 c.tt]) rfl) rfl uMSt X0 ?_
                  refine Qj ?_
                  refine Xw ?_ Ql
                  refine Qp (i := 8) (enc := spE) (cv := adrF) (c.fl, c.tt) 0 rfl rfl rfl (KeyIs.agg (us := [.int .i64 c.fl, .int .i64 c.tt]) rfl) rfl uMAd X0 ?_
                  refine Qj ?_
                  refine Xu (hK _ _ ?_)
                  (refine Q3 (Q3 ?_))
                  exact Xq hM _ es (Q7 3 (Q7 2 (by exact Qu rfl ⟨rfl, rfl, rfl, rfl, rfl, trivial⟩)))
                refine Xw ?_ Ql
                refine Qp (i := 9) (enc := spE) (cv := intC) (c.fl, c.tt) 3 rfl rfl rfl (KeyIs.agg (us := [.int .i64 c.fl, .int .i64 c.tt]) rfl) rfl uMSt X0 ?_
                refine Qj ?_
                refine X9 ?_
                refine Q8 (n := 2) rfl rfl rfl rfl rfl (by with_reducible exact Zg) rfl ?_
                refine Qj ?_
                refine Xw ?_ Ql
                refine Qp (i := 8) (enc := spE) (cv := adrF) (c.fl, c.tt) 0 rfl rfl rfl (KeyIs.agg (us := [.int .i64 c.fl, .int .i64 c.tt]) rfl) rfl uMAd X0 ?_
                refine Qj ?_
                refine Xu (hK _ _ ?_)
                (refine Q3 (Q3 ?_))
                exact Xq hM _ es (Q7 3 (Q7 2 (by exact Qu rfl ⟨rfl, rfl, rfl, rfl, rfl, trivial⟩)))
              refine Xm ?_ ?_
              · refine Q8 (n := 2) rfl rfl rfl rfl rfl (by with_reducible exact Zg) rfl ?_
                refine Qj ?_
                refine Xm ?_ ?_
                · refine QJ rfl rfl rfl rfl rfl (by with_reducible exact lMAd) rfl ?_
                  refine Qj ?_
                  refine Xw ?_ Ql
                  refine Qp (i := 9) (enc := spE) (cv := intC) (c.fl, c.tt) 3 rfl rfl rfl (KeyIs.agg (us := [.int .i64 c.fl, .int .i64 c.tt]) rfl) rfl uMSt X0 ?_
                  refine Qj ?_
                  refine Xw ?_ Ql
                  refine Qp (i := 8) (enc := spE) (cv := adrF) (c.fl, c.tt) 0 rfl rfl rfl (KeyIs.agg (us := [.int .i64 c.fl, .int .i64 c.tt]) rfl) rfl uMAd X0 ?_
                  refine Qj ?_
                  refine Xu (hK _ _ ?_)
                  (refine Q3 (Q3 ?_))
                  exact Xq hM _ es (Q7 3 (Q7 2 (by exact Qu rfl ⟨rfl, rfl, rfl, rfl, rfl, trivial⟩)))
                refine Xw ?_ Ql
                refine Qp (i := 9) (enc := spE) (cv := intC) (c.fl, c.tt) 3 rfl rfl rfl (KeyIs.agg (us := [.int .i64 c.fl, .int .i64 c.tt]) rfl) rfl uMSt X0 ?_
                refine Qj ?_
                refine X9 ?_
                refine QJ rfl rfl rfl rfl rfl (by with_reducible exact lMAd) rfl ?_
                refine Qj ?_
                refine Xw ?_ Ql
                refine Qp (i := 8) (enc := spE) (cv := adrF) (c.fl, c.tt) 0 rfl rfl rfl (KeyIs.agg (us := [.int .i64 c.fl, .int .i64 c.tt]) rfl) rfl uMAd X0 ?_
                refine Qj ?_
                refine Xu (hK _ _ ?_)
                (refine Q3 (Q3 ?_))
                exact Xq hM _ es (Q7 3 (Q7 2 (by exact Qu rfl ⟨rfl, rfl, rfl, rfl, rfl, trivial⟩)))
              refine Xw ?_ Ql
              refine Qp (i := 9) (enc := spE) (cv := intC) (c.fl, c.tt) 3 rfl rfl rfl (KeyIs.agg (us := [.int .i64 c.fl, .int .i64 c.tt]) rfl) rfl uMSt X0 ?_
              refine Qj ?_
              refine X9 ?_
              refine QJ rfl rfl rfl rfl rfl (by with_reducible exact lMAd) rfl ?_
              refine Qj ?_
              refine X9 ?_
              refine Q8 (n := 2) rfl rfl rfl rfl rfl (by with_reducible exact Zg) rfl ?_
              refine Qj ?_
              refine Xw ?_ Ql
              refine Qp (i := 8) (enc := spE) (cv := adrF) (c.fl, c.tt) 0 rfl rfl rfl (KeyIs.agg (us := [.int .i64 c.fl, .int .i64 c.tt]) rfl) rfl uMAd X0 ?_
              refine Qj ?_
              refine Xu (hK _ _ ?_)
              (refine Q3 (Q3 ?_))
              exact Xq hM _ es (Q7 3 (Q7 2 (by exact Qu rfl ⟨rfl, rfl, rfl, rfl, rfl, trivial⟩)))
            · rw [if_neg (fun h => h.2 (Fin.ext (by omega)))] at es
              (refine Q0 (Q3 (Q3 ?_)))
              exact Xq hM _ es (Q7 3 (Q7 2 (by exact Qu rfl ⟨rfl, rfl, rfl, rfl, rfl, trivial⟩)))
          · rw [if_neg (fun h => h3 h.1)] at es
            (refine Qw rfl rfl rfl ?_; refine Qw rfl rfl rfl ?_; refine Qw rfl rfl rfl ?_; refine Qw rfl rfl rfl ?_; refine Qw rfl rfl rfl ?_; refine Qw rfl rfl rfl ?_; refine Qw rfl rfl rfl ?_; refine Qw rfl rfl rfl ?_; refine Q6 rfl rfl rfl rfl ?_; refine Qv rfl rfl rfl ?_; refine Qj (hK _ _ (Qx (Xy rfl (Q0 (Q3 (Q3 ?_)))))); clear hK K)
            exact Xq hM _ es (Q7 3 (Q7 2 (by exact Qu rfl ⟨rfl, rfl, rfl, rfl, rfl, trivial⟩)))
  · have hi' : i = l.length := by omega
    have el : (l.take i).foldl (lookS e) ([], []) = l.foldl (lookS e) ([], []) := by rw [hi', List.take_length]
    rw [el]
    refine St.frzM 8 1 1 rfl rfl rfl (fun _ h => h.elim) ?_
    refine St.frzM 9 1 2 rfl rfl rfl (fun _ h => h.elim) ?_
    (refine Qo (Qx (Qy (Qq fun K hK => ?_))); refine Q8 (n := 3) rfl rfl rfl rfl rfl (by with_reducible exact lView) rfl ?_; refine Qb 3 rfl rfl rfl rfl rfl (by with_reducible exact szView) rfl rfl ?_; refine Qj (hK _ _ (Qx (QU ?_))); clear hK K)
    refine Fin.end [_] rfl (Qg (n := 3) rfl rfl (by with_reducible exact lView) rfl QX) rfl rfl
end Go.Proofs.YtlkdkbdgnjcopaaGreat
namespace Go.Proofs.YtlkdkbdgnjcopaaGreat
open Go.Own Go.Limbs
abbrev ESp := Tk × Int × Int
def plS (r : Rs) : ESp := (trOf r, r.fl, r.tt)
def plB (r : Rs) : Bool := r.an && usR r
abbrev SeenM := List (ESp × Fin 4294967296)
def clashG : SeenM → List Rs → Nat
  | _, [] => 0
  | m, r :: l =>
    if plB r = false then clashG m l + 1
    else if (look1 m (plS r)).isSome = true ∧ (look1 m (plS r)).getD 0 ≠ r.fr then 0
    else clashG (ins m (plS r) r.fr) l + 1
def conB (a b : Rs) : Bool := (plB a && plB b) && (decide (plS a = plS b) && decide (a.fr ≠ b.fr))
def witG (o : List Rs) : Option Nat :=
  let k := clashG [] o
  if k < o.length then (o.take k).findIdx? (fun a => conB a (o.getD k rs0)) else none
theorem clashG_le : ∀ (l : List Rs) (m : SeenM), clashG m l ≤ l.length
  | [], _ => Nat.le_refl _
  | r :: l, m => by
    simp only [clashG, List.length_cons]
    split
    · have := clashG_le l m; omega
    · split
      · omega
      · have := clashG_le l (ins m (plS r) r.fr); omega
theorem usR_tt {r : Rs} (h : usR r = true) : 1 ≤ r.tt ∧ r.tt ≤ 255 := by
  simp only [usR, okR, Bool.and_eq_true, decide_eq_true_eq] at h
  have h1 := h.2.1
  unfold ckE at h1
  split at h1
  · cases h1
  · rename_i h2; unfold P1 at h2; omega
theorem hasS_tt {l : List Rs} {fl tt : Int} (h : hasS (lookG l).2 fl tt = true) : 1 ≤ tt ∧ tt ≤ 255 := by
  unfold hasS at h
  cases e : look1 (lookG l).2 (fl, tt) with
  | none => rw [e] at h; simp at h
  | some v =>
    obtain ⟨_, r, _, hu, hs⟩ := lookG_keys l _ _ e
    injection hs with h1 h2
    rw [h2]; exact usR_tt hu
theorem pathG_len (m : AdM × StM) (fl : Int) : ∀ (k : Nat) (tt : Int), (pathG m fl k tt).length ≤ k
  | 0, _ => Nat.le_refl _
  | k + 1, tt => by
    unfold pathG
    split
    · have := pathG_len m fl k (tt + 1); simp only [List.length_cons]; omega
    · exact Nat.zero_le _
attribute [local irreducible] Go.Own.Fin Ok OkB OkF OkL OkN OkT Ops St
theorem goPath : InGo Tryz.prog 93 := InGo.of Tryz.func93 rfl (by decide)
set_option maxHeartbeats 4000000 in
theorem Path_ok (l : List Rs) (fl : Int) (hl : l.length ≤ 100000) : OkF Tryz.prog 93 [rssC l, intC fl] 27 1 (adrs (pathF l fl)) := by
  have hL := Look_ok l hl
  have hb : ∀ tt, hasS (lookG l).2 fl tt = true → 1 ≤ tt ∧ tt ≤ 255 := fun tt h => hasS_tt h
  have e0 : pathF l fl = pathG (lookG l) fl 256 1 := rfl
  rw [e0]
  clear e0
  generalize endF l = e at hL
  generalize lookG l = m at hL hb ⊢
  refine OkF.enter Tryz.func93 rfl _ Tryz.ntmps93 rfl ?_
  intro S w
  (refine Qy (Qq fun K hK => ?_); refine Qv rfl rfl rfl ?_; refine Qj (hK _ _ (Qx (Qy ?_))); clear hK K; refine Qq (fun K hK => ?_); refine Qz rfl rfl rfl ?_)
  refine QZ goLook hL rfl rfl rfl rfl ?_
  (refine Qi 0 rfl rfl (by with_reducible exact zvView) rfl rfl rfl ?_; refine Qb 3 rfl rfl rfl rfl rfl (by with_reducible exact szView) rfl rfl ?_; refine Qj (hK _ _ (Qx (Qy ?_))); clear hK K; refine Qq (fun K hK => ?_); refine Qv rfl rfl rfl ?_; refine Qj (hK _ _ (Qx (Qy (Qy ?_)))); clear hK K; refine Qq (fun K hK => ?_); refine Qv rfl rfl rfl ?_; refine Qj (hK _ _ (Qx (Q2 ?_))); clear hK K)
  refine Xg 6 1 27 1 rfl rfl rfl ?_
  refine Xz (α := List Ad) (fun pre => pre.length ≤ 255 ∧ pathG m fl 256 1 = pre ++ pathG m fl (256 - pre.length) (pre.length + 1))
    (fun pre => [(1, .ct (intC fl)), (5, .own 0), (6, .own 1), (7, .ct (intC (pre.length + 1)))])
    (fun pre => [(1, .row 27 1 (adrs pre)), (0, .box 184 [intC e, .fr (mapT (adM m.1)), .fr (mapT (stM m.2))])]) (fun pre => 256 - pre.length) [] ⟨Nat.zero_le _, rfl⟩ (by exact Qu rfl ⟨rfl, rfl, rfl, rfl, trivial⟩) ?_
  intro pre ⟨hp, hq⟩
  try dsimp only
  have hH := Has_ok e fl (pre.length + 1) m
  have hb1 := hb (pre.length + 1)
  have hun : ∀ k, pathG m fl (k + 1) (pre.length + 1) = if hasS m.2 fl (pre.length + 1) then (look1 m.1 (fl, (pre.length : Int) + 1)).getD 0 :: pathG m fl k (pre.length + 1 + 1) else [] := fun _ => rfl
  generalize hasS m.2 fl (pre.length + 1) = hs at hH hb1 hun
  (refine Qy (Qy (Qq fun K hK => ?_)); refine Q8 (n := 3) rfl rfl rfl rfl rfl (by with_reducible exact lView) rfl ?_; refine Qz rfl rfl rfl ?_; refine Qz rfl rfl rfl ?_)
  refine QZ goHas hH rfl rfl rfl rfl ?_
  (refine Qj (hK _ _ (Qx ?_)); clear hK K)
  refine XK rfl (fun h => ?_) (fun h => ?_)
  · have hl2 := hb1 h
    obtain ⟨k, hk⟩ : ∃ k, 256 - pre.length = k + 1 := ⟨255 - pre.length, by omega⟩
    rw [hk, hun, if_pos h] at hq
    (refine Q0 (Qx (Qy (Q2 (Qq fun K hK => ?_)))); refine Qz rfl rfl rfl ?_; refine QY rfl rfl rfl (by with_reducible first | exact fV0 | exact fV1 | exact fV2) rfl ?_; refine QJ rfl rfl rfl rfl rfl (by with_reducible first | exact lMSt | exact lMAd) rfl ?_; refine Qz rfl rfl rfl ?_; refine Qz rfl rfl rfl ?_)
    refine Qn rfl (by with_reducible exact bSpot) rfl (.one rfl rfl rfl rfl (.one rfl rfl rfl rfl .nil)) rfl ?_
    refine Ops.lookF (cv := adrF) (enc := spE) 0 (fl, (pre.length : Int) + 1) rfl rfl rfl (KeyIs.agg (us := [.int .i64 fl, .int .i64 ((pre.length : Int) + 1)]) rfl) uMAd z0Adr (fun _ _ => rfl) X0 rfl ?_
    generalize (look1 m.1 (fl, (pre.length : Int) + 1)).getD 0 = a at hq ⊢
    skip
    refine Zz rfl rfl (by with_reducible exact sAdrs) rfl rfl rfl ?_
    refine Xk pre.length (adrs (pre ++ [a])) rfl rfl rfl rfl (by with_reducible exact sAdrs) (by simp [adrs]) rfl (by omega) (by omega) (by simp [adrs]) rfl ?_
    (refine Qv rfl rfl rfl ?_; refine Qj (hK _ _ (Qx ?_)); clear hK K; refine Qq (fun K hK => ?_); refine Qz rfl rfl rfl ?_; refine Qk (iadd (by omega) (by omega)) rfl rfl rfl rfl ?_; refine Qv rfl rfl rfl ?_; refine Qj (hK _ _ (Q4 ?_)); clear hK K)
    refine Q9 (pre ++ [a]) (by rw [List.length_append]; simp; omega) ⟨by rw [List.length_append]; simp; omega, ?_⟩ (by exact Qu rfl ⟨rfl, rfl, rfl, by simp only [List.length_append, List.length_cons, List.length_nil, Int.natCast_add]; rfl, trivial⟩)
    rw [hq, List.length_append, List.append_assoc]
    have : 256 - (pre.length + [a].length) = k := by simp; omega
    rw [this]
    simp
  · obtain ⟨k, hk⟩ : ∃ k, 256 - pre.length = k + 1 := ⟨255 - pre.length, by omega⟩
    rw [hk, hun, if_neg (by rw [h]; decide), List.append_nil] at hq
    (refine Qo (Qx (Qy (Qq fun K hK => ?_))); refine Qz rfl rfl rfl ?_; refine Qv rfl rfl rfl ?_; refine Qj (hK _ _ (Qx (QU ?_))); clear hK K)
    refine Fin.retF rfl rfl (by rw [hq]; rfl) rfl
abbrev esI (s : ESp) : List Int := [s.1.va, (s.1.ds.val : Int), s.1.pr, s.2.1, s.2.2]
abbrev esK : List IntKind := [.i64, .u32, .i64] ++ [.i64, .i64]
abbrev esE (s : ESp) : Value := Go.Own.encI esK (esI s)
abbrev esCs (s : ESp) : List CT := [intC s.1.va, adrF s.1.ds, intC s.1.pr, intC s.2.1, intC s.2.2]
abbrev esC (s : ESp) : CT := .fr (aggT (esCs s))
abbrev esV (s : ESp) : List Value := [.int .i64 s.1.va, .int .u32 (s.1.ds.val : Int), .int .i64 s.1.pr, .int .i64 s.2.1, .int .i64 s.2.2]
theorem eqES : EqF Tryz.prog 223 86 [.i64, .u32, .i64] [.i64, .i64] := ⟨by kernel_rfl, by kernel_rfl, by kernel_rfl, by kernel_rfl, by kernel_rfl, by kernel_rfl, by kernel_rfl, by kernel_rfl⟩
theorem esI_inj (a b : ESp) (h : esI a = esI b) : a = b := by
  obtain ⟨⟨a1, a2, a3⟩, a4, a5⟩ := a
  obtain ⟨⟨b1, b2, b3⟩, b4, b5⟩ := b
  simp only [esI, List.cons.injEq, and_true, Int.ofNat_inj, Fin.val_inj] at h
  obtain ⟨h1, h2, h3, h4, h5⟩ := h
  rw [h1, h2, h3, h4, h5]
theorem keyES : KeyT Tryz.prog 223 esE := eqES.flat.key esI (fun _ => rfl) esI_inj
theorem gES : Tryz.prog.eqGuardType Tryz.prog.depth 223 = false := by kernel_rfl
theorem lES : LdN Tryz.prog 223 5 := LdN.of _ Tryz.underlying223 rfl (by kernel_rfl)
theorem szES : (Tryz.prog.info? 223).map (·.size) = some 5 := by kernel_rfl
theorem zvES : (Tryz.prog.info? 223).map (·.zero) = some (some (.agg #[.int .i64 0, .int .u32 0, .int .i64 0, .int .i64 0, .int .i64 0])) := by kernel_rfl
theorem bES : bInfo Tryz.prog 223 = some (.agg #[.int .i64 0, .int .u32 0, .int .i64 0, .int .i64 0, .int .i64 0], [(0, some 3), (3, some 1), (4, some 1)]) := by kernel_rfl
theorem uMSeen : Tryz.prog.underlying 221 = some (.map 223 27) := Tryz.underlying221
theorem goPlace : InGo Tryz.prog 180 := InGo.of Tryz.func180 rfl (by decide)
set_option maxHeartbeats 4000000 in
theorem Place_ok (r : Rs) : Ok Tryz.prog 180 [rsC r] (.fr (tupT [esC (plS r), boolC (plB r)])) := by
  have hT := TraceOf_ok r
  have hU := Usable_ok r
  have e0 : plB r = (r.an && usR r) := rfl
  generalize usR r = ub at hU e0
  refine Ok.enter Tryz.func180 rfl _ Tryz.ntmps180 rfl ?_
  intro S w
  (refine Qy (Qq fun K hK => ?_); refine XQ 0 rfl rfl rfl rfl rfl rfl rfl ?_)
  refine Qi 1 rfl rfl (by with_reducible exact zvES) rfl rfl rfl ?_
  (refine Qv rfl rfl rfl ?_; refine Qj (hK _ _ (Qx (Qy ?_))); clear hK K)
  refine XJ (by with_reducible exact mixed) 13 (.p 2 (.p 4 (.p 7 (.f 0 (.f 3 (.f 5 (.fork 1 (.p 6 (.m 8 (.p 9 (.m 10 (.m 11 (.p 12 (.a 13 (.p 14 .done)))))))) 8 (.m 1 (.p 6 (.p 9 (.m 10 (.m 11 (.p 12 (.a 13 (.p 14 .done))))))))))))))) (by kernel_rfl) (fun K hK => ?_)
  (refine QY rfl rfl rfl (by with_reducible first | exact fS0 | exact fS1 | exact fS2 | exact fS3 | exact fS4 | exact fS5 | exact fS6 | exact fS7 | exact fS8 | exact fS9 | exact fS10 | exact fS11 | exact fN0 | exact fN1 | exact fN2 | exact fN3 | exact fN4 | exact fN5) rfl ?_; refine QY rfl rfl rfl (by with_reducible first | exact fS0 | exact fS1 | exact fS2 | exact fS3 | exact fS4 | exact fS5 | exact fS6 | exact fS7 | exact fS8 | exact fS9 | exact fS10 | exact fS11 | exact fN0 | exact fN1 | exact fN2 | exact fN3 | exact fN4 | exact fN5) rfl ?_; refine QY rfl rfl rfl (by with_reducible first | exact fS0 | exact fS1 | exact fS2 | exact fS3 | exact fS4 | exact fS5 | exact fS6 | exact fS7 | exact fS8 | exact fS9 | exact fS10 | exact fS11 | exact fN0 | exact fN1 | exact fN2 | exact fN3 | exact fN4 | exact fN5) rfl ?_; refine Q8 (n := 17) rfl rfl rfl rfl rfl (by with_reducible exact lRes) rfl ?_; refine QJ rfl rfl rfl rfl rfl (by with_reducible first | exact lInt | exact Qh | exact Qf | exact lRess) rfl ?_; refine QJ rfl rfl rfl rfl rfl (by with_reducible first | exact lInt | exact Qh | exact Qf | exact lRess) rfl ?_)
  refine Ops.fork ?_ ?_
  · refine QZ goTraceOf hT rfl rfl rfl rfl ?_
    refine Qn rfl (by with_reducible exact bES) rfl (.agg rfl rfl rfl rfl (.one rfl rfl rfl rfl (.one rfl rfl rfl rfl .nil))) rfl ?_
    (refine QJ rfl rfl rfl rfl rfl (by with_reducible first | exact lInt | exact Qh | exact Qf | exact lRess) rfl ?_; refine Qz rfl rfl rfl ?_)
    refine ZZ 13 (b := r.an) rfl (fun h => ?_) (fun h => ?_)
    · (refine Q8 (n := 17) rfl rfl rfl rfl rfl (by with_reducible exact lRes) rfl ?_)
      refine QZ goUsable hU rfl rfl rfl rfl ?_
      (refine QK rfl rfl rfl rfl ?_)
      refine Qb 5 rfl rfl rfl rfl rfl (by with_reducible exact szES) rfl rfl ?_
      (refine Qv rfl rfl rfl ?_; refine Qj (hK _ _ (Qx (QU ?_))); clear hK K)
      refine QW [_, _] rfl (Qg (n := 5) rfl rfl (by with_reducible exact lES) rfl (QQ rfl QX)) (by rw [e0, h, Bool.true_and]; rfl) rfl
    · (refine Qw rfl rfl rfl ?_; refine Qw rfl rfl rfl ?_; refine Q6 rfl rfl rfl rfl ?_)
      refine Qb 5 rfl rfl rfl rfl rfl (by with_reducible exact szES) rfl rfl ?_
      (refine Qv rfl rfl rfl ?_; refine Qj (hK _ _ (Qx (QU ?_))); clear hK K)
      refine QW [_, _] rfl (Qg (n := 5) rfl rfl (by with_reducible exact lES) rfl (QQ rfl QX)) (by rw [e0, h, Bool.false_and]; rfl) rfl
  · (refine QJ rfl rfl rfl rfl rfl (by with_reducible first | exact lInt | exact Qh | exact Qf | exact lRess) rfl ?_)
    refine QZ goTraceOf hT rfl rfl rfl rfl ?_
    refine Qn rfl (by with_reducible exact bES) rfl (.agg rfl rfl rfl rfl (.one rfl rfl rfl rfl (.one rfl rfl rfl rfl .nil))) rfl ?_
    (refine Qz rfl rfl rfl ?_)
    refine ZZ 13 (b := r.an) rfl (fun h => ?_) (fun h => ?_)
    · (refine Q8 (n := 17) rfl rfl rfl rfl rfl (by with_reducible exact lRes) rfl ?_)
      refine QZ goUsable hU rfl rfl rfl rfl ?_
      (refine QK rfl rfl rfl rfl ?_)
      refine Qb 5 rfl rfl rfl rfl rfl (by with_reducible exact szES) rfl rfl ?_
      (refine Qv rfl rfl rfl ?_; refine Qj (hK _ _ (Qx (QU ?_))); clear hK K)
      refine QW [_, _] rfl (Qg (n := 5) rfl rfl (by with_reducible exact lES) rfl (QQ rfl QX)) (by rw [e0, h, Bool.true_and]; rfl) rfl
    · (refine Qw rfl rfl rfl ?_; refine Qw rfl rfl rfl ?_; refine Q6 rfl rfl rfl rfl ?_)
      refine Qb 5 rfl rfl rfl rfl rfl (by with_reducible exact szES) rfl rfl ?_
      (refine Qv rfl rfl rfl ?_; refine Qj (hK _ _ (Qx (QU ?_))); clear hK K)
      refine QW [_, _] rfl (Qg (n := 5) rfl rfl (by with_reducible exact lES) rfl (QQ rfl QX)) (by rw [e0, h, Bool.false_and]; rfl) rfl
theorem goContradict : InGo Tryz.prog 146 := InGo.of Tryz.func146 rfl (by decide)
set_option maxHeartbeats 4000000 in
theorem Contradict_ok (a b : Rs) : Ok Tryz.prog 146 [rsC a, rsC b] (boolC (conB a b)) := by
  have hA := Place_ok a
  have hB := Place_ok b
  have e0 : conB a b = ((plB a && plB b) && (decide (plS a = plS b) && decide (a.fr ≠ b.fr))) := rfl
  have e1 : decide (esI (plS a) = esI (plS b)) = decide (plS a = plS b) := decide_eq_decide.2 ⟨esI_inj _ _, fun h => by rw [h]⟩
  generalize plS a = sa at hA e0 e1
  generalize plS b = sb at hB e0 e1
  generalize plB a = pa at hA e0
  generalize plB b = pb at hB e0
  refine Ok.enter Tryz.func146 rfl _ Tryz.ntmps146 rfl ?_
  intro S w
  (refine Qy (Qq fun K hK => ?_); refine XQ 0 rfl rfl rfl rfl rfl rfl rfl ?_; refine XQ 1 rfl rfl rfl rfl rfl rfl rfl ?_; refine Qv rfl rfl rfl ?_; refine Qj (hK _ _ (Qx (Qy ?_))); clear hK K; refine Qq (fun K hK => ?_); refine Q8 (n := 17) rfl rfl rfl rfl rfl (by with_reducible exact lRes) rfl ?_)
  refine QZ goPlace hA rfl rfl rfl rfl ?_
  (refine Qz rfl rfl rfl ?_; refine Qa rfl rfl rfl rfl ?_; refine Qa rfl rfl rfl rfl ?_)
  refine Qi 2 rfl rfl (by with_reducible exact zvES) rfl rfl rfl ?_
  refine Qb 5 rfl rfl rfl rfl rfl (by with_reducible exact szES) rfl rfl ?_
  (refine Qv rfl rfl rfl ?_; refine Qj (hK _ _ (Qx (Qy ?_))); clear hK K; refine Qq (fun K hK => ?_); refine Q8 (n := 17) rfl rfl rfl rfl rfl (by with_reducible exact lRes) rfl ?_)
  refine QZ goPlace hB rfl rfl rfl rfl ?_
  (refine Qz rfl rfl rfl ?_; refine Qa rfl rfl rfl rfl ?_; refine Qa rfl rfl rfl rfl ?_)
  refine Qi 3 rfl rfl (by with_reducible exact zvES) rfl rfl rfl ?_
  refine Qb 5 rfl rfl rfl rfl rfl (by with_reducible exact szES) rfl rfl ?_
  (refine Qv rfl rfl rfl ?_; refine Qj (hK _ _ (Qx (Qy ?_))); clear hK K; refine Qq (fun K hK => ?_); refine Qz rfl rfl rfl ?_; refine Qz rfl rfl rfl ?_)
  refine ZZ 20 (b := pa) rfl (fun h => ?_) (fun h => ?_)
  · (refine Qz rfl rfl rfl ?_; refine QK rfl rfl rfl rfl ?_; refine Qz rfl rfl rfl ?_)
    refine ZZ 23 (b := pb) rfl (fun h2 => ?_) (fun h2 => ?_)
    · skip
      refine Q8 (n := 5) rfl rfl rfl rfl rfl (by with_reducible exact lES) rfl ?_
      refine Q8 (n := 5) rfl rfl rfl rfl rfl (by with_reducible exact lES) rfl ?_
      refine Ops.eqK (ks := esK) (esI sa) (esI sb) rfl rfl rfl rfl rfl eqES.flat gES rfl ?_
      rw [e1]
      (refine QK rfl rfl rfl rfl ?_; refine Qz rfl rfl rfl ?_)
      refine Qc 28 (p := sa = sb) rfl (fun h3 => ?_) (fun h3 => ?_)
      · (refine QY rfl rfl rfl (by with_reducible first | exact fS0 | exact fS1 | exact fS2 | exact fS3 | exact fS4 | exact fS5 | exact fS6 | exact fS7 | exact fS8 | exact fS9 | exact fS10 | exact fS11 | exact fN0 | exact fN1 | exact fN2 | exact fN3 | exact fN4 | exact fN5) rfl ?_; refine Z8 rfl rfl (by with_reducible first | exact fN0 | exact fN1 | exact fN2 | exact fN3 | exact fN4 | exact fN5) rfl ?_; refine QJ rfl rfl rfl rfl rfl (by with_reducible first | exact lInt | exact Qh | exact Qf | exact lRess) rfl ?_; refine QY rfl rfl rfl (by with_reducible first | exact fS0 | exact fS1 | exact fS2 | exact fS3 | exact fS4 | exact fS5 | exact fS6 | exact fS7 | exact fS8 | exact fS9 | exact fS10 | exact fS11 | exact fN0 | exact fN1 | exact fN2 | exact fN3 | exact fN4 | exact fN5) rfl ?_; refine Z8 rfl rfl (by with_reducible first | exact fN0 | exact fN1 | exact fN2 | exact fN3 | exact fN4 | exact fN5) rfl ?_; refine QJ rfl rfl rfl rfl rfl (by with_reducible first | exact lInt | exact Qh | exact Qf | exact lRess) rfl ?_; refine Qk ineq rfl rfl rfl rfl ?_; refine QK rfl rfl rfl rfl ?_; refine Qv rfl rfl rfl ?_; refine Qj (hK _ _ (Qx (QU ?_))); clear hK K)
        refine QW [_] rfl (QQ rfl QX) (by rw [e0, h, h2, decide_eq_true h3]; simp only [Bool.true_and]; rw [show (decide (a.fr ≠ b.fr)) = decide (¬((a.fr.val : Int) = b.fr.val)) from decide_eq_decide.2 ⟨fun h h' => h (Fin.ext (by omega)), fun h h' => h (by rw [h'])⟩]; rfl) rfl
      · (refine Qw rfl rfl rfl ?_; refine Qw rfl rfl rfl ?_; refine Qw rfl rfl rfl ?_; refine Qw rfl rfl rfl ?_; refine Qw rfl rfl rfl ?_; refine Qw rfl rfl rfl ?_; refine Qw rfl rfl rfl ?_; refine Q6 rfl rfl rfl rfl ?_; refine Qv rfl rfl rfl ?_; refine Qj (hK _ _ (Qx (QU ?_))); clear hK K)
        refine QW [_] rfl (QQ rfl QX) (by rw [e0, h, h2, decide_eq_false h3]; rfl) rfl
    · (refine Qw rfl rfl rfl ?_; refine Qw rfl rfl rfl ?_; refine Qw rfl rfl rfl ?_; refine Q6 rfl rfl rfl rfl ?_; refine Qz rfl rfl rfl ?_; refine Qw rfl rfl rfl ?_; refine Qw rfl rfl rfl ?_; refine Qw rfl rfl rfl ?_; refine Qw rfl rfl rfl ?_; refine Qw rfl rfl rfl ?_; refine Qw rfl rfl rfl ?_; refine Qw rfl rfl rfl ?_; refine Q6 rfl rfl rfl rfl ?_; refine Qv rfl rfl rfl ?_; refine Qj (hK _ _ (Qx (QU ?_))); clear hK K)
      refine QW [_] rfl (QQ rfl QX) (by rw [e0, h, h2]; rfl) rfl
  · (refine Qw rfl rfl rfl ?_; refine Q6 rfl rfl rfl rfl ?_; refine Qz rfl rfl rfl ?_; refine Qw rfl rfl rfl ?_; refine Qw rfl rfl rfl ?_; refine Qw rfl rfl rfl ?_; refine Q6 rfl rfl rfl rfl ?_; refine Qz rfl rfl rfl ?_; refine Qw rfl rfl rfl ?_; refine Qw rfl rfl rfl ?_; refine Qw rfl rfl rfl ?_; refine Qw rfl rfl rfl ?_; refine Qw rfl rfl rfl ?_; refine Qw rfl rfl rfl ?_; refine Qw rfl rfl rfl ?_; refine Q6 rfl rfl rfl rfl ?_; refine Qv rfl rfl rfl ?_; refine Qj (hK _ _ (Qx (QU ?_))); clear hK K)
    refine QW [_] rfl (QQ rfl QX) (by rw [e0, h]; rfl) rfl
attribute [local irreducible] OkM
theorem gotravel : InGo Tryz.prog 44 := InGo.of Tryz.func44 rfl (by decide)
set_option maxHeartbeats 4000000 in
theorem Travel_ok (l : List Rs) (hl : l.length ≤ 10000) : OkM Tryz.prog 44 [.ct (rssC l)] [] [] (fun v : Value => v.oneCell' = true) (fun v => .ct (travC (owF l) v)) (fun v => [(8, .mpx v (knM []))]) := by
  have hT := Traces_ok l hl
  have hO := fun t => Of_ok l t hl
  have hlen : (trsF l).length ≤ 10000 := by
    have h1 := sd_len cmpT ((l.filter okR).map trOf)
    have h2 := List.length_filter_le okR l
    rw [List.length_map] at h1
    unfold trsF; omega
  unfold owF
  generalize trsF l = ts at hT hlen ⊢
  refine OkM.enter Tryz.func44 rfl _ Tryz.ntmps44 rfl (fun i hi => by cases hi) ?_
  intro S w ρ0 hbor
  (refine Qy (Qq fun K hK => ?_); refine Qi 0 rfl rfl (by with_reducible first | exact zvTrav | exact zvCn) rfl rfl rfl ?_; refine Qj (hK _ _ (Qx (Qy ?_))); clear hK K; refine Qq (fun K hK => ?_))
  refine Ops.mkMap 6 rfl rfl rfl rfl rfl (fun v1 hv1 => ?_)
  refine Ops.mkMap 8 rfl rfl rfl rfl rfl (fun v2 hv2 => ?_)
  refine Qn rfl (by with_reducible exact bTrav) rfl (.one rfl rfl hv1 rfl (.one rfl rfl hv2 rfl .nil)) rfl ?_
  refine Qi 1 rfl rfl (by with_reducible exact zvTrav) rfl rfl rfl ?_
  refine Qb 2 rfl rfl rfl rfl (by show (Value.oneCell' v1 && (Value.oneCell' v2 && true)) = true; rw [hv1, hv2]; rfl) (by with_reducible exact szTrav) rfl rfl ?_
  (refine Qj (hK _ _ (Qx (Qy (Qy ?_)))); clear hK K; refine Qq (fun K hK => ?_); refine Qz rfl rfl rfl ?_)
  refine Z9 3 goTraces hT rfl rfl rfl rfl rfl rfl ?_
  refine Xs 3 _ rfl (tks_frozen _ _) hbor ?_
  (refine Qd rfl rfl (by with_reducible first | exact sTks.und | exact sWrs.und | exact sIks.und | exact sAdrs.und) (List.length_map ..) rfl ?_; refine Qz rfl rfl rfl ?_; refine Qj (hK _ _ (Qx (Q2 ?_))); clear hK K)
  refine Xz (α := Nat) (fun i => i ≤ ts.length)
    (fun i => [(0, .ct (rssC l)), (2, .own 0), (3, .own 1), (10, .ct (tksC ts)), (11, .ct (intC ts.length)), (12, .ct (intC i))])
    (fun i => [(1, .box 94 [.ex v1, .ex v2]), (8, .mpx v2 (knM [])), (6, .mpx v1 (owM ((ts.take i).foldl (fun m t => ins m t (ofF l t)) []))), (0, .box 94 [.ex (.map none), .ex (.map none)])])
    (fun i => ts.length - i) 0 (Nat.zero_le _) (by exact Qu rfl ⟨rfl, rfl, rfl, rfl, rfl, rfl, trivial⟩) ?_
  intro i hi
  try dsimp only at hi ⊢
  (refine Qy (Qq fun K hK => ?_); refine Qk ilss rfl rfl rfl rfl ?_; refine Qj (hK _ _ (Qx (Qy ?_))); clear hK K)
  refine Q1 rfl (fun h => ?_) (fun h => ?_)
  · have e2 : (i : Int).toNat = i := Int.toNat_natCast i
    have hs := foldl_take (fun m t => ins m t (ofF l t)) ([] : OwM) (z := tk0) (l := ts) (i := i) (by omega)
    generalize (ts.take i).foldl (fun m t => ins m t (ofF l t)) ([] : OwM) = m at hs ⊢
    (refine Q0 (Qx (Qy (Q2 (Qy (Qq fun K hK => ?_))))))
    refine Qm rfl rfl rfl (by with_reducible exact sTks) (by omega) (tks_at (by omega) (by omega)) rfl ?_
    rw [e2]
    generalize ts.getD i tk0 = t at hs ⊢
    refine Xr (n := 3) rfl rfl rfl (by with_reducible exact lTrace) rfl rfl ?_
    refine Qi 2 rfl rfl (by with_reducible exact zvTrace) rfl rfl rfl ?_
    refine Qb 3 rfl rfl rfl rfl rfl (by with_reducible exact szTrace) rfl rfl ?_
    (refine Qj (hK _ _ (Qx ?_)); clear hK K)
    refine XJ (by with_reducible exact mixed) 6 (.p 0 (.p 3 (.f 1 (.f 2 (.f 4 (.m 5 (.a 6 .done))))))) (by kernel_rfl) (fun K hK => ?_)
    (refine QY rfl rfl rfl (by with_reducible first | exact fTk0 | exact fTk1 | exact fTk2 | exact fWr0 | exact fWr1 | exact X6 | exact X7 | exact Xt | exact fStm1 | exact fCn0 | exact fCn1 | exact fCn2 | exact fCn3 | exact fCs0 | exact fCs1) rfl ?_; refine Qz rfl rfl rfl ?_; refine QJ rfl rfl rfl rfl rfl (by with_reducible first | exact lMOwn | exact lMKnown) rfl ?_; refine Q8 (n := 3) rfl rfl rfl rfl rfl (by with_reducible exact lTrace) rfl ?_; refine Q8 (n := 3) rfl rfl rfl rfl rfl (by with_reducible exact lTrace) rfl ?_)
    refine Z9 3 goOf (hO t) rfl rfl rfl rfl rfl rfl ?_
    refine Xs 3 _ rfl (Za _ _) hbor ?_
    refine Qp (i := 6) (enc := tkE) (cv := rssC) t (ofF l t) rfl rfl rfl (KeyIs.agg (us := tkVs t) rfl) rfl uMOwn keyTk ?_
    (refine Qj (hK _ _ (Qx ?_)); clear hK K; refine Qq (fun K hK => ?_); refine Qk (iadd (by omega) (by omega)) rfl rfl rfl rfl ?_; refine Qz rfl rfl rfl ?_; refine Qj (hK _ _ (Q4 ?_)); clear hK K)
    refine Xj 2 ?_
    refine Q9 (i + 1) (by omega) (by omega) (by rw [hs]; exact Qu rfl ⟨rfl, rfl, rfl, rfl, rfl, by simp only [Int.natCast_add]; rfl, trivial⟩)
  · have hi' : i = ts.length := by omega
    rw [hi', List.take_length]
    generalize ts.foldl (fun m t => ins m t (ofF l t)) ([] : OwM) = m
    refine St.frzM 6 1 0 rfl rfl rfl (fun q hq => .inl (hbor q hq)) ?_
    (refine Qo (Qx (Qy (Qq fun K hK => ?_))); refine Q8 (n := 2) rfl rfl rfl rfl rfl (by with_reducible first | exact lTrav | exact lWire | exact lCs) rfl ?_)
    refine Qb 2 rfl rfl rfl rfl (by show (true && (Value.oneCell' v2 && true)) = true; rw [hv2]; rfl) (by with_reducible exact szTrav) rfl rfl ?_
    (refine Qj (hK _ _ (Qx (QU ?_))); clear hK K)
    refine Fin.retMC [1, 0] v2 [_] rfl (Qg (n := 2) rfl rfl (by with_reducible exact lTrav) rfl QX) rfl rfl (fun _ => rfl) hv2
theorem goway : InGo Tryz.prog 46 := InGo.of Tryz.func46 rfl (by decide)
theorem wayF_eq (l : List Rs) (r : Rs) : wayF l r = if usR r = false then [] else if r.tt ≤ ((pathF (ofF l (trOf r)) r.fl).length : Int) then wiresG 0 ((pathF (ofF l (trOf r)) r.fl).take r.tt.toNat) true
    else if ((pathF (ofF l (trOf r)) r.fl).length : Int) < r.tt - 1 ∨ r.an = true then [] else wiresG 0 (pathF (ofF l (trOf r)) r.fl) true := rfl
theorem knOk_ins {l : List Rs} {m : KnM} (h : knOk l m) (s : Stm) : knOk l (ins m s (pathF (ofF l s.1) s.2)) := fun x p hx => by
  rw [Zd] at hx
  split at hx
  · rename_i e; subst e; injection hx with hx; exact hx.symm
  · exact h x p hx
def prv (p : List (_root_.Fin 4294967296)) (i : Nat) : _root_.Fin 4294967296 := if i = 0 then 0 else p.getD (i - 1) 0
theorem wiresG_step {p : List (_root_.Fin 4294967296)} {i : Nat} (h : i < p.length) : wiresG (prv p i) (p.drop i) (decide (i = 0)) =
    (if p.getD i 0 ≠ 0 ∧ (i = 0 ∨ prv p i ≠ 0) then [(prv p i, p.getD i 0)] else []) ++ wiresG (prv p (i + 1)) (p.drop (i + 1)) (decide (i + 1 = 0)) := by
  have e : p.drop i = p.getD i 0 :: p.drop (i + 1) := by
    rw [List.drop_eq_getElem_cons h]; simp [List.getD_eq_getElem?_getD, List.getElem?_eq_getElem h]
  have e2 : prv p (i + 1) = p.getD i 0 := by unfold prv; rw [if_neg (by omega)]; rfl
  rw [e, e2]
  show (if p.getD i 0 ≠ 0 ∧ (decide (i = 0) = true ∨ prv p i ≠ 0) then [(prv p i, p.getD i 0)] else []) ++ _ = _
  simp only [decide_eq_true_eq]
  rfl
theorem pathF_len (l : List Rs) (fl : Int) : (pathF l fl).length ≤ 256 := pathG_len _ _ _ _
set_option maxHeartbeats 8000000 in
theorem Way_ok (l : List Rs) (hl : l.length ≤ 10000) (v : Value) (hv : v.oneCell' = true) (r : Rs) (al : KnM) (hal : knOk l al) :
    OkM Tryz.prog 46 [.ct (travC (owF l) v), .ct (rsC r)] [(8, .mpx v (knM al))] [] (fun m : KnM => knOk l m) (fun _ => .ct (wrsC (wayF l r))) (fun m => [(8, .mpx v (knM m))]) := by
  have hU := Usable_ok r
  have hTt : usR r = true → 1 ≤ r.tt ∧ r.tt ≤ 255 := usR_tt
  have hW := wayF_eq l r
  have hLo := owF_look l (trOf r)
  have hof : (ofF l (trOf r)).length ≤ 10000 := by
    have h1 := sd_len cmpR (l.filter okR)
    have h2 := List.length_filter_le okR l
    have h3 := List.length_filter_le (fun x => decide (trOf x = trOf r)) (sd cmpR (l.filter okR))
    unfold ofF; omega
  have hP := Path_ok (ofF l (trOf r)) r.fl (by omega)
  have hpl := pathF_len (ofF l (trOf r)) r.fl
  have hkn := fun m (h : knOk l m) => knOk_ins h (trOf r, r.fl)
  have hal' := fun p => hal (trOf r, r.fl) p
  dsimp only at hkn hal'
  generalize owF l = om at hLo ⊢
  generalize wayF l r = W at hW ⊢
  generalize pathF (ofF l (trOf r)) r.fl = p at hW hP hpl hkn hal'
  generalize usR r = ub at hU hTt hW
  rw [← hLo] at hP
  refine OkM.enter Tryz.func46 rfl _ Tryz.ntmps46 rfl (fun i hi => by cases hi) ?_
  intro S w ρ0 hbor
  refine Qy ?_
  refine Qq (fun K hK => ?_)
  refine XQ 0 rfl rfl rfl (by show (true && (Value.oneCell' v && true)) = true; rw [hv]; rfl) rfl rfl rfl ?_
  (refine XQ 1 rfl rfl rfl rfl rfl rfl rfl ?_; refine Qv rfl rfl rfl ?_; refine Qj (hK _ _ (Qx (Qy (Qy ?_)))); clear hK K; refine Qq (fun K hK => ?_); refine Q8 (n := 17) rfl rfl rfl rfl rfl (by with_reducible exact lRes) rfl ?_)
  refine QZ goUsable hU rfl rfl rfl rfl ?_
  (refine Qs rfl rfl rfl ?_; refine Qj (hK _ _ (Qx ?_)); clear hK K)
  refine XK rfl (fun h => ?_) (fun h => ?_)
  · have h : ub = false := by simpa using h
    rw [if_pos h] at hW
    (refine Qy (Qq fun K hK => ?_); refine Qv rfl rfl rfl ?_; refine Qj (hK _ _ (Qx (QU (QV ?_)))); clear hK K)
    refine Fin.retMC [1, 0] al [_] rfl (XY ZV (QQ rfl QX)) (by rw [hW]; rfl) rfl (fun _ => rfl) hal
  have h : ub = true := by simpa using h
  rw [if_neg (by rw [h]; decide)] at hW
  obtain ⟨ht1, ht2⟩ := hTt h
  clear hTt hU
  (refine Q0 (Qx (Qy ?_)))
  refine Zf (α := Unit) (fun _ => True) (fun _ => [(2, .own 0), (3, .own 1), (5, .own 2)])
    (fun _ => [(2, .box 145 (stmCs (trOf r, r.fl))), (1, .box 35 (rsCs r)), (0, .box 94 [.fr (mapT (owM om)), .ex v]), (8, .mpx v (knM al))]) (fun _ _ => ?_) (fun KN hM => ?_)
  rotate_left
  · refine XJ (by with_reducible exact mixed) 6 (.p 2 (.f 0 (.f 3 (.fork 1 (.p 4 (.m 5 (.a 6 .done))) 5 (.m 1 (.p 4 (.a 6 .done))))))) (by kernel_rfl) (fun K hK => ?_)
    (refine QY rfl rfl rfl (by with_reducible first | exact fS0 | exact fS1 | exact fS2 | exact fS3 | exact fS4 | exact fS5 | exact fS6 | exact fS7 | exact fS8 | exact fS9 | exact fS10 | exact fS11 | exact fN0 | exact fN1 | exact fN2 | exact fN3 | exact fN4 | exact fN5) rfl ?_; refine Q8 (n := 17) rfl rfl rfl rfl rfl (by with_reducible exact lRes) rfl ?_; refine QJ rfl rfl rfl rfl rfl (by with_reducible first | exact lInt | exact Qh | exact Qf | exact lRess) rfl ?_)
    refine Ops.fork ?_ ?_
    · refine QZ goTraceOf (TraceOf_ok r) rfl rfl rfl rfl ?_
      refine Qn rfl (by with_reducible exact bStm) rfl (.agg rfl rfl rfl rfl (.one rfl rfl rfl rfl .nil)) rfl ?_
      (refine Qi 2 rfl rfl (by with_reducible first | exact zvStm | exact zvCn) rfl rfl rfl ?_; refine Qb 4 rfl rfl rfl rfl rfl (by with_reducible exact szStm) rfl rfl ?_; refine Qj (hK _ _ ?_); clear hK K)
      exact Xq hM () trivial (Qu rfl ⟨rfl, rfl, rfl, trivial⟩)
    · (refine Qi 2 rfl rfl (by with_reducible first | exact zvStm | exact zvCn) rfl rfl rfl ?_)
      refine QZ goTraceOf (TraceOf_ok r) rfl rfl rfl rfl ?_
      refine Qn rfl (by with_reducible exact bStm) rfl (.agg rfl rfl rfl rfl (.one rfl rfl rfl rfl .nil)) rfl ?_
      (refine Qb 4 rfl rfl rfl rfl rfl (by with_reducible exact szStm) rfl rfl ?_; refine Qj (hK _ _ ?_); clear hK K)
      exact Xq hM () trivial (Qu rfl ⟨rfl, rfl, rfl, trivial⟩)
  (refine Qy (Qq fun K hK => ?_); refine QY rfl rfl rfl (by with_reducible first | exact fTk0 | exact fTk1 | exact fTk2 | exact fWr0 | exact fWr1 | exact X6 | exact X7 | exact Xt | exact fStm1 | exact fCn0 | exact fCn1 | exact fCn2 | exact fCn3 | exact fCs0 | exact fCs1) rfl ?_; refine QJ rfl rfl rfl rfl rfl (by with_reducible first | exact lMOwn | exact lMKnown) rfl ?_; refine Q8 (n := 4) rfl rfl rfl rfl rfl (by with_reducible exact lStm) rfl ?_)
  refine Ops.lookM2 (i := 8) (cv := adsC) (enc := stmE) [] (trOf r, r.fl) rfl rfl rfl rfl (KeyIs.agg (us := stmV (trOf r, r.fl)) rfl) uMKnown z0Ads (fun S w => ZV S w _ rfl) keyStm rfl ?_
  generalize look1 al (trOf r, r.fl) = lk at hal'
  refine Qz rfl rfl rfl ?_
  refine Qa rfl rfl rfl rfl ?_
  refine Qa rfl rfl rfl rfl ?_
  refine Qv rfl rfl rfl ?_
  refine Qv rfl rfl rfl ?_
  refine Qj (hK _ _ ?_)
  clear hK K
  refine Qx ?_
  refine Qy ?_
  refine Zf (α := KnM) (fun m => knOk l m) (fun _ => [(2, .own 0), (3, .own 1), (5, .own 2), (6, .ct (adsC p))])
    (fun m => [(2, .box 145 (stmCs (trOf r, r.fl))), (1, .box 35 (rsCs r)), (0, .box 94 [.fr (mapT (owM om)), .ex v]), (8, .mpx v (knM m))]) (fun m hm => ?_) (fun KN hM => ?_)
  rotate_left
  · (refine Qy (Qq fun K hK => ?_); refine Qz rfl rfl rfl ?_; refine Qs rfl rfl rfl ?_; refine Qj (hK _ _ (Qx ?_)); clear hK K)
    refine XK rfl (fun h2 => ?_) (fun h2 => ?_)
    · (refine Qy ?_)
      refine XJ (by with_reducible exact mixed) 9 (.p 0 (.p 2 (.p 5 (.f 1 (.f 3 (.f 4 (.f 6 (.m 7 (.p 8 .done))))))))) (by kernel_rfl) (fun K hK => ?_)
      (refine QY rfl rfl rfl (by with_reducible first | exact fTk0 | exact fTk1 | exact fTk2 | exact fWr0 | exact fWr1 | exact X6 | exact X7 | exact Xt | exact fStm1 | exact fCn0 | exact fCn1 | exact fCn2 | exact fCn3 | exact fCs0 | exact fCs1) rfl ?_; refine QY rfl rfl rfl (by with_reducible first | exact fTk0 | exact fTk1 | exact fTk2 | exact fWr0 | exact fWr1 | exact X6 | exact X7 | exact Xt | exact fStm1 | exact fCn0 | exact fCn1 | exact fCn2 | exact fCn3 | exact fCs0 | exact fCs1) rfl ?_; refine QY rfl rfl rfl (by with_reducible first | exact fS0 | exact fS1 | exact fS2 | exact fS3 | exact fS4 | exact fS5 | exact fS6 | exact fS7 | exact fS8 | exact fS9 | exact fS10 | exact fS11 | exact fN0 | exact fN1 | exact fN2 | exact fN3 | exact fN4 | exact fN5) rfl ?_; refine QJ rfl rfl rfl rfl rfl (by with_reducible first | exact lMOwn | exact lMKnown) rfl ?_)
      refine Ops.ldNA (n := 3) rfl rfl rfl rfl (Nat.le_of_ble_eq_true rfl) (by with_reducible exact lTrace) rfl ?_
      refine Ops.lookF (enc := tkE) (cv := rssC) [] (trOf r) rfl rfl rfl (KeyIs.agg (us := tkVs (trOf r)) rfl) uMOwn z0Rss (fun S w => ZV S w _ rfl) keyTk rfl ?_
      (refine QJ rfl rfl rfl rfl rfl (by with_reducible first | exact lInt | exact Qh | exact Qf | exact lRess) rfl ?_)
      refine Z9 3 goPath hP rfl rfl rfl rfl rfl rfl ?_
      refine Xs 3 _ rfl (adrs_frozen _ _) hbor ?_
      (refine Qv rfl rfl rfl ?_; refine Qj (hK _ _ (Qx ?_)); clear hK K; refine Qq (fun K hK => ?_); refine QY rfl rfl rfl (by with_reducible first | exact fTk0 | exact fTk1 | exact fTk2 | exact fWr0 | exact fWr1 | exact X6 | exact X7 | exact Xt | exact fStm1 | exact fCn0 | exact fCn1 | exact fCn2 | exact fCn3 | exact fCs0 | exact fCs1) rfl ?_; refine QJ rfl rfl rfl rfl rfl (by with_reducible first | exact lMOwn | exact lMKnown) rfl ?_; refine Q8 (n := 4) rfl rfl rfl rfl rfl (by with_reducible exact lStm) rfl ?_; refine Qz rfl rfl rfl ?_)
      refine Qp (i := 8) (enc := stmE) (cv := adsC) (trOf r, r.fl) p rfl rfl rfl (KeyIs.agg (us := stmV (trOf r, r.fl)) rfl) rfl uMKnown keyStm ?_
      (refine Qj (hK _ _ ?_); clear hK K)
      exact Xq hM _ (hkn al hal) (Qu rfl ⟨rfl, rfl, rfl, rfl, trivial⟩)
    · cases lk with
      | none => cases h2
      | some p' =>
        rw [← hal' p' rfl] at hM
        (refine Q0 ?_)
        exact Xq hM al hal (Qu rfl ⟨rfl, rfl, rfl, rfl, trivial⟩)
  refine Qy ?_
  refine St.cutR (α := List (_root_.Fin 4294967296)) (fun p' => W = wiresG 0 p' true ∧ p'.length ≤ 256) (fun p' => [(2, .own 0), (3, .own 1), (6, .ct (adsC p'))])
    (fun _ => [(2, .box 145 (stmCs (trOf r, r.fl))), (1, .box 35 (rsCs r)), (0, .box 94 [.fr (mapT (owM om)), .ex v]), (8, .mpx v (knM m))]) (fun p' hp' => ?_) (fun KN hM hR => ?_)
  rotate_left
  · (refine Q2 (Qy (Qq fun K hK => ?_)); refine Qz rfl rfl rfl ?_; refine Qd rfl rfl (by with_reducible first | exact sTks.und | exact sWrs.und | exact sIks.und | exact sAdrs.und) (List.length_map ..) rfl ?_; refine QY rfl rfl rfl (by with_reducible first | exact fS0 | exact fS1 | exact fS2 | exact fS3 | exact fS4 | exact fS5 | exact fS6 | exact fS7 | exact fS8 | exact fS9 | exact fS10 | exact fS11 | exact fN0 | exact fN1 | exact fN2 | exact fN3 | exact fN4 | exact fN5) rfl ?_; refine QJ rfl rfl rfl rfl rfl (by with_reducible first | exact lInt | exact Qh | exact Qf | exact lRess) rfl ?_; refine Qk igeq rfl rfl rfl rfl ?_; refine Qv rfl rfl rfl ?_; refine Qj (hK _ _ (Qx ?_)); clear hK K)
    refine Q1 rfl (fun h2 => ?_) (fun h2 => ?_)
    · rw [if_pos h2] at hW
      (refine Qq (fun K hK => ?_); refine Qz rfl rfl rfl ?_; refine QY rfl rfl rfl (by with_reducible first | exact fS0 | exact fS1 | exact fS2 | exact fS3 | exact fS4 | exact fS5 | exact fS6 | exact fS7 | exact fS8 | exact fS9 | exact fS10 | exact fS11 | exact fN0 | exact fN1 | exact fN2 | exact fN3 | exact fN4 | exact fN5) rfl ?_; refine QJ rfl rfl rfl rfl rfl (by with_reducible first | exact lInt | exact Qh | exact Qf | exact lRess) rfl ?_)
      refine Ops.cutHi rfl rfl rfl (by with_reducible exact sAdrs) (by omega) (by rw [List.length_map]; omega) rfl ?_
      rw [← List.map_take]
      (refine Qv rfl rfl rfl ?_; refine Qj (hK _ _ (Q3 ?_)); clear hK K)
      exact Xq hM (p.take r.tt.toNat) ⟨hW, by rw [List.length_take]; omega⟩ (Qu rfl ⟨rfl, rfl, rfl, trivial⟩)
    rw [if_neg h2] at hW
    (refine Qy (Qq fun K hK => ?_); refine Qz rfl rfl rfl ?_; refine Qd rfl rfl (by with_reducible first | exact sTks.und | exact sWrs.und | exact sIks.und | exact sAdrs.und) (List.length_map ..) rfl ?_; refine QY rfl rfl rfl (by with_reducible first | exact fS0 | exact fS1 | exact fS2 | exact fS3 | exact fS4 | exact fS5 | exact fS6 | exact fS7 | exact fS8 | exact fS9 | exact fS10 | exact fS11 | exact fN0 | exact fN1 | exact fN2 | exact fN3 | exact fN4 | exact fN5) rfl ?_; refine QJ rfl rfl rfl rfl rfl (by with_reducible first | exact lInt | exact Qh | exact Qf | exact lRess) rfl ?_; refine Qk (isub (by omega) (by omega)) rfl rfl rfl rfl ?_; refine Qk ilss rfl rfl rfl rfl ?_; refine Qz rfl rfl rfl ?_)
    refine Qc 58 rfl (fun h3 => ?_) (fun h3 => ?_)
    · rw [if_pos (Or.inl h3)] at hW
      (refine Qw rfl rfl rfl ?_; refine Qw rfl rfl rfl ?_; refine QK rfl rfl rfl rfl ?_; refine Qv rfl rfl rfl ?_; refine Qj (hK _ _ (Qx (Qt rfl (Qy ?_)))); clear hK K; refine Qq (fun K hK => ?_); refine Qv rfl rfl rfl ?_; refine Qj (hK _ _ (Qx (QU (Q5 ?_)))); clear hK K)
      exact Fin.up hR (Fin.retMC [2, 1, 0] m [_] rfl (XY ZV (QQ rfl QX)) (by rw [hW]; rfl) rfl (fun _ => rfl) hm)
    · (refine QY rfl rfl rfl (by with_reducible first | exact fS0 | exact fS1 | exact fS2 | exact fS3 | exact fS4 | exact fS5 | exact fS6 | exact fS7 | exact fS8 | exact fS9 | exact fS10 | exact fS11 | exact fN0 | exact fN1 | exact fN2 | exact fN3 | exact fN4 | exact fN5) rfl ?_; refine QJ rfl rfl rfl rfl rfl (by with_reducible first | exact lInt | exact Qh | exact Qf | exact lRess) rfl ?_; refine Q6 rfl rfl rfl rfl ?_; refine Qv rfl rfl rfl ?_; refine Qj (hK _ _ (Qx ?_)); clear hK K)
      refine XK rfl (fun h4 => ?_) (fun h4 => ?_)
      · rw [if_pos (Or.inr h4)] at hW
        (refine Qy (Qq fun K hK => ?_); refine Qv rfl rfl rfl ?_; refine Qj (hK _ _ (Qx (QU (Q5 ?_)))); clear hK K)
        exact Fin.up hR (Fin.retMC [2, 1, 0] m [_] rfl (XY ZV (QQ rfl QX)) (by rw [hW]; rfl) rfl (fun _ => rfl) hm)
      · rw [if_neg (fun h => h.elim h3 (fun h => by rw [h4] at h; cases h))] at hW
        (refine Q0 (Q3 ?_))
        exact Xq hM p ⟨hW, hpl⟩ (Qu rfl ⟨rfl, rfl, rfl, trivial⟩)
  obtain ⟨hW', hpl'⟩ := hp'
  clear hW hpl hkn hP hal' hLo hof
  (refine Qy (Qq fun K hK => ?_); refine Qv rfl rfl rfl ?_; refine Qj (hK _ _ (Qx (Qy (Qy ?_)))); clear hK K; refine Qq (fun K hK => ?_); refine Qz rfl rfl rfl ?_; refine Qd rfl rfl (by with_reducible first | exact sTks.und | exact sWrs.und | exact sIks.und | exact sAdrs.und) (List.length_map ..) rfl ?_; refine Qz rfl rfl rfl ?_; refine Qj (hK _ _ (Qx (Q2 ?_))); clear hK K)
  refine Xg 8 4 37 2 rfl rfl rfl ?_
  refine Xz (α := Nat × List Wr) (fun q => q.1 ≤ p'.length ∧ q.2.length ≤ q.1 ∧ wiresG 0 p' true = q.2 ++ wiresG (prv p' q.1) (p'.drop q.1) (decide (q.1 = 0)))
    (fun q => [(3, .own 1), (6, .ct (adsC p')), (8, .own 4), (62, .ct (adsC p')), (63, .ct (intC p'.length)), (64, .ct (intC q.1))])
    (fun q => [(4, .row 37 2 (wrs q.2)), (2, .box 145 (stmCs (trOf r, r.fl))), (1, .box 35 (rsCs r)), (0, .box 94 [.fr (mapT (owM om)), .ex v]), (8, .mpx v (knM m))])
    (fun q => p'.length - q.1) (0, []) ⟨Nat.zero_le _, Nat.zero_le _, rfl⟩ (by exact Qu rfl ⟨rfl, rfl, rfl, rfl, rfl, rfl, trivial⟩) ?_
  intro ⟨i, out⟩ ⟨hi, hol, hq⟩
  try dsimp only at hi hol hq ⊢
  (refine Qy (Qq fun K hK => ?_); refine Qk ilss rfl rfl rfl rfl ?_; refine Qj (hK _ _ (Qx (Qy ?_))); clear hK K)
  refine Q1 rfl (fun h => ?_) (fun h => ?_)
  · have e2 : (i : Int).toNat = i := Int.toNat_natCast i
    rw [wiresG_step (by omega)] at hq
    (refine Q0 (Qx (Qy (Q2 (Qy (Qq fun K hK => ?_))))); refine Qz rfl rfl rfl ?_)
    refine Qm rfl rfl rfl (by with_reducible exact sAdrs) (by omega) (adrs_at (by omega) (by omega)) rfl ?_
    rw [e2]
    refine Xx rfl rfl rfl (by with_reducible exact Qh) rfl ?_
    generalize p'.getD i 0 = a at hq
    refine Qv rfl rfl rfl ?_
    refine Qv rfl rfl rfl ?_
    refine Qj (hK _ _ ?_)
    clear hK K
    refine Qx ?_
    refine Qy ?_
    refine Qq (fun K hK => ?_)
    refine Qv rfl rfl rfl ?_
    refine Qj (hK _ _ ?_)
    clear hK K
    refine Qx ?_
    refine Qy ?_
    refine Zf (α := Unit) (fun _ => True) (fun _ => [(3, .own 1), (6, .ct (adsC p')), (8, .own 4), (9, .ct (intC i)), (10, .ct (adrF a)), (11, .ct (adrF (prv p' i))), (62, .ct (adsC p')), (63, .ct (intC p'.length)), (64, .ct (intC i))])
      (fun _ => [(4, .row 37 2 (wrs out)), (2, .box 145 (stmCs (trOf r, r.fl))), (1, .box 35 (rsCs r)), (0, .box 94 [.fr (mapT (owM om)), .ex v]), (8, .mpx v (knM m))]) (fun _ _ => ?_) (fun KN hM => ?_)
    rotate_left
    · (refine Qy (Qq fun K hK => ?_); refine Qz rfl rfl rfl ?_; refine Qk igtr rfl rfl rfl rfl ?_; refine Qj (hK _ _ (Qx ?_)); clear hK K)
      refine Q1 rfl (fun h2 => ?_) (fun h2 => ?_)
      · have e3 : ((i : Int) - 1).toNat = i - 1 := by omega
        have e4 : prv p' i = p'.getD (i - 1) 0 := if_neg (by omega)
        rw [e4] at hM
        (refine Qq (fun K hK => ?_); refine Qz rfl rfl rfl ?_; refine Qz rfl rfl rfl ?_; refine Qk (isub (by omega) (by omega)) rfl rfl rfl rfl ?_)
        refine Qm rfl rfl rfl (by with_reducible exact sAdrs) (by omega) (adrs_at (by omega) (by omega)) rfl ?_
        rw [e3]
        refine Xx rfl rfl rfl (by with_reducible exact Qh) rfl ?_
        (refine Qv rfl rfl rfl ?_; refine Qj (hK _ _ ?_); clear hK K)
        exact Xq hM () trivial (Qu rfl ⟨rfl, rfl, rfl, rfl, rfl, rfl, rfl, rfl, rfl, trivial⟩)
      · have e4 : prv p' i = 0 := if_pos (by omega)
        rw [e4] at hM
        (refine Q0 ?_)
        exact Xq hM () trivial (Qu rfl ⟨rfl, rfl, rfl, rfl, rfl, rfl, rfl, rfl, rfl, trivial⟩)
    generalize prv p' i = f at hq
    (refine Qy (Qq fun K hK => ?_); refine Qz rfl rfl rfl ?_; refine Qk ineq rfl rfl rfl rfl ?_; refine Qz rfl rfl rfl ?_)
    have ez : ∀ x : _root_.Fin 4294967296, ((x.val : Int) ≠ 0) ↔ x ≠ 0 := fun x => ⟨fun h e => h (by rw [e]; rfl), fun h e => h (Fin.ext (by have e0 : ((0 : _root_.Fin 4294967296).val) = 0 := rfl; omega))⟩
    refine Qc 78 rfl (fun h1 => ?_) (fun h1 => ?_)
    · have h1 := (ez a).1 h1
      (refine Qz rfl rfl rfl ?_; refine Qk ieql rfl rfl rfl rfl ?_; refine Qz rfl rfl rfl ?_)
      refine Qc 81 rfl (fun h2 => ?_) (fun h2 => ?_)
      · (refine Qw rfl rfl rfl ?_; refine Qw rfl rfl rfl ?_; refine QK rfl rfl rfl rfl ?_; refine QK rfl rfl rfl rfl ?_; refine Qj (hK _ _ (Qx (Qt rfl ?_))); clear hK K; refine Qq (fun K hK => ?_); refine Qz rfl rfl rfl ?_; refine Qz rfl rfl rfl ?_; refine Qz rfl rfl rfl ?_)
        refine Qn rfl (by with_reducible exact bWire) rfl (.one rfl rfl rfl rfl (.one rfl rfl rfl rfl .nil)) rfl ?_
        refine ZX (n := 2) rfl rfl (by with_reducible exact sWrs) rfl rfl (by decide) rfl ?_
        refine Xk out.length (wrs (out ++ [(f, a)])) rfl rfl rfl rfl (by with_reducible exact sWrs) (wrs_len out) rfl (by omega) (by omega) (wrs_snoc out (f, a)) rfl ?_
        (refine Qv rfl rfl rfl ?_; refine Qj (hK _ _ (Qx ?_)); clear hK K; refine Qq (fun K hK => ?_); refine Qk (iadd (by omega) (by omega)) rfl rfl rfl rfl ?_; refine Qz rfl rfl rfl ?_; refine Qj (hK _ _ (Q4 ?_)); clear hK K)
        refine Q9 (i + 1, out ++ [(f, a)]) (by dsimp only; omega) ⟨by dsimp only; omega, by simp only [List.length_append, List.length_singleton]; omega, by rw [hq, if_pos (⟨h1, .inl (by omega)⟩ : a ≠ 0 ∧ (i = 0 ∨ f ≠ 0)), List.append_assoc]⟩ (by exact Qu rfl ⟨rfl, rfl, rfl, rfl, rfl, by simp only [Int.natCast_add]; rfl, trivial⟩)
      · (refine Qz rfl rfl rfl ?_; refine Qk ineq rfl rfl rfl rfl ?_; refine Q6 rfl rfl rfl rfl ?_; refine QK rfl rfl rfl rfl ?_; refine Qj (hK _ _ (Qx ?_)); clear hK K)
        refine Q1 rfl (fun h3 => ?_) (fun h3 => ?_)
        · (refine Qq (fun K hK => ?_); refine Qz rfl rfl rfl ?_; refine Qz rfl rfl rfl ?_; refine Qz rfl rfl rfl ?_)
          refine Qn rfl (by with_reducible exact bWire) rfl (.one rfl rfl rfl rfl (.one rfl rfl rfl rfl .nil)) rfl ?_
          refine ZX (n := 2) rfl rfl (by with_reducible exact sWrs) rfl rfl (by decide) rfl ?_
          refine Xk out.length (wrs (out ++ [(f, a)])) rfl rfl rfl rfl (by with_reducible exact sWrs) (wrs_len out) rfl (by omega) (by omega) (wrs_snoc out (f, a)) rfl ?_
          (refine Qv rfl rfl rfl ?_; refine Qj (hK _ _ (Qx ?_)); clear hK K; refine Qq (fun K hK => ?_); refine Qk (iadd (by omega) (by omega)) rfl rfl rfl rfl ?_; refine Qz rfl rfl rfl ?_; refine Qj (hK _ _ (Q4 ?_)); clear hK K)
          refine Q9 (i + 1, out ++ [(f, a)]) (by dsimp only; omega) ⟨by dsimp only; omega, by simp only [List.length_append, List.length_singleton]; omega, by rw [hq, if_pos (⟨h1, .inr ((ez f).1 h3)⟩ : a ≠ 0 ∧ (i = 0 ∨ f ≠ 0)), List.append_assoc]⟩ (by exact Qu rfl ⟨rfl, rfl, rfl, rfl, rfl, by simp only [Int.natCast_add]; rfl, trivial⟩)
        · (refine Q0 (Qx (Qq fun K hK => ?_)); refine Qk (iadd (by omega) (by omega)) rfl rfl rfl rfl ?_; refine Qz rfl rfl rfl ?_; refine Qj (hK _ _ (Q4 ?_)); clear hK K)
          refine Q9 (i + 1, out) (by dsimp only; omega) ⟨by dsimp only; omega, by dsimp only; omega, by rw [hq, if_neg (fun h => h.2.elim (fun e => h2 (by omega)) (fun e => h3 ((ez f).2 e)) : ¬ (a ≠ 0 ∧ (i = 0 ∨ f ≠ 0))), List.nil_append]⟩ (by exact Qu rfl ⟨rfl, rfl, rfl, rfl, rfl, by simp only [Int.natCast_add]; rfl, trivial⟩)
    · (refine Qw rfl rfl rfl ?_; refine Qw rfl rfl rfl ?_; refine Qw rfl rfl rfl ?_; refine Qw rfl rfl rfl ?_; refine Qw rfl rfl rfl ?_; refine Qw rfl rfl rfl ?_; refine Q6 rfl rfl rfl rfl ?_; refine Qj (hK _ _ (Qx (Xy rfl (Q0 (Qx ?_))))); clear hK K; refine Qq (fun K hK => ?_); refine Qk (iadd (by omega) (by omega)) rfl rfl rfl rfl ?_; refine Qz rfl rfl rfl ?_; refine Qj (hK _ _ (Q4 ?_)); clear hK K)
      refine Q9 (i + 1, out) (by dsimp only; omega) ⟨by dsimp only; omega, by dsimp only; omega, by rw [hq, if_neg (fun h => h1 ((ez a).2 h.1) : ¬ (a ≠ 0 ∧ (i = 0 ∨ f ≠ 0))), List.nil_append]⟩ (by exact Qu rfl ⟨rfl, rfl, rfl, rfl, rfl, by simp only [Int.natCast_add]; rfl, trivial⟩)
  · have hi' : i = p'.length := by omega
    rw [hi', List.drop_length] at hq
    have hq : wiresG 0 p' true = out := by rw [hq]; exact List.append_nil _
    rw [hq] at hW'
    (refine Qo (Qx (Qy (Qq fun K hK => ?_))); refine Qz rfl rfl rfl ?_; refine Qv rfl rfl rfl ?_; refine Qj (hK _ _ (Qx (QU ?_))); clear hK K)
    refine Fin.freeze 4 _ rfl (wrs_frozen _ _) hbor ?_
    exact Fin.retMC [2, 1, 0] m [_] rfl (QQ rfl QX) (by rw [hW']; rfl) rfl (fun _ => rfl) hm
end Go.Proofs.YtlkdkbdgnjcopaaGreat
namespace Go.Proofs.YtlkdkbdgnjcopaaGreat
open Go.Own Go.Limbs
attribute [local irreducible] St Ops Go.Own.Fin Ok OkB OkN OkT OkL OkF
theorem goClash : InGo Tryz.prog 145 := InGo.of Tryz.func145 rfl (by decide)
theorem drop_getD {α : Type} {l : List α} {z : α} {i : Nat} (h : i < l.length) : l.drop i = l.getD i z :: l.drop (i + 1) := by
  rw [List.drop_eq_getElem_cons h, List.getD_eq_getElem?_getD, List.getElem?_eq_getElem h]; rfl
set_option maxHeartbeats 4000000 in
theorem Clash_ok (l : List Rs) (hl : l.length ≤ 100000) : Ok Tryz.prog 145 [rssC l] (intC (clashG [] l)) := by
  refine Ok.enter Tryz.func145 rfl _ Tryz.ntmps145 rfl ?_
  intro S w
  (refine Qy (Qq fun K hK => ?_); refine Qv rfl rfl rfl ?_; refine Qj (hK _ _ (Qx (Qy ?_))); clear hK K; refine Qq (fun K hK => ?_))
  refine Ops.mkMap 8 rfl rfl rfl rfl rfl (fun v1 hv1 => ?_)
  (refine Qv rfl rfl rfl ?_; refine Qj (hK _ _ (Qx (Qy (Qy ?_)))); clear hK K; refine Qq (fun K hK => ?_); refine Qz rfl rfl rfl ?_; refine Qd rfl rfl (by with_reducible exact sRes.und) (List.length_map ..) rfl ?_; refine Qz rfl rfl rfl ?_; refine Qj (hK _ _ (Qx (Q2 ?_))); clear hK K)
  refine Xz (α := Nat × SeenM) (fun q => q.1 ≤ l.length ∧ clashG [] l = q.1 + clashG q.2 (l.drop q.1))
    (fun q => [(3, .ct (.ex v1)), (0, .ct (rssC l)), (11, .ct (rssC l)), (12, .ct (intC l.length)), (13, .ct (intC q.1))]) (fun q => [(8, .mpx v1 (kvs esE adrF q.2))]) (fun q => l.length - q.1) (0, []) ⟨Nat.zero_le _, (Nat.zero_add _).symm⟩ (by exact Qu rfl ⟨rfl, rfl, rfl, rfl, rfl, trivial⟩) ?_
  rintro ⟨i, m⟩ ⟨hi, hq⟩
  try dsimp only at hi hq ⊢
  (refine Qy (Qq fun K hK => ?_); refine Qk ilss rfl rfl rfl rfl ?_; refine Qj (hK _ _ (Qx (Qy ?_))); clear hK K)
  refine Q1 rfl (fun h => ?_) (fun h => ?_)
  · have e2 : (i : Int).toNat = i := Int.toNat_natCast i
    rw [drop_getD (z := rs0) (show i < l.length by omega)] at hq
    (refine Q0 (Qx (Qy (Q2 (Qy (Qq fun K hK => ?_))))); refine Qz rfl rfl rfl ?_; refine Qm rfl rfl rfl (by with_reducible exact sRes) (by omega) (rss_at (by omega) (by omega)) rfl ?_; refine Xr (n := 17) rfl rfl rfl (by with_reducible exact lRes) rfl rfl ?_; refine Qi 0 rfl rfl (by with_reducible exact zvRes) rfl rfl rfl ?_; refine Qv rfl rfl rfl ?_; refine Qb 17 rfl rfl rfl rfl rfl (by with_reducible exact szRes) rfl rfl ?_; refine Qj (hK _ _ (Qx (Qy ?_))); clear hK K; refine Qq (fun K hK => ?_); refine Q8 (n := 17) rfl rfl rfl rfl rfl (by with_reducible exact lRes) rfl ?_)
    rw [e2]
    generalize l.getD i rs0 = c at hq ⊢
    have hP := Place_ok c
    simp only [clashG] at hq
    generalize plS c = sc at hP hq
    generalize plB c = pc at hP hq
    skip
    refine QZ goPlace hP rfl rfl rfl rfl ?_
    (refine Qz rfl rfl rfl ?_; refine Qa rfl rfl rfl rfl ?_; refine Qa rfl rfl rfl rfl ?_)
    refine Qi 3 rfl rfl (by with_reducible exact zvES) rfl rfl rfl ?_
    refine Qb 5 rfl rfl rfl rfl rfl (by with_reducible exact szES) rfl rfl ?_
    (refine Qv rfl rfl rfl ?_; refine Qj (hK _ _ (Qx (Qy (Qy ?_)))); clear hK K; refine Qq (fun K hK => ?_); refine Qz rfl rfl rfl ?_; refine Qs rfl rfl rfl ?_; refine Qj (hK _ _ (Qx ?_)); clear hK K)
    refine XK rfl (fun h1 => ?_) (fun h1 => ?_)
    · have h1' : pc = false := by simpa using h1
      rw [if_pos h1'] at hq
      (refine Qo (Qx (Qq fun K hK => ?_)); refine Qk (iadd (by omega) (by omega)) rfl rfl rfl rfl ?_; refine Qz rfl rfl rfl ?_; refine Qj (hK _ _ (Q4 ?_)); clear hK K)
      refine Xj 3 ?_
      refine Xj 0 ?_
      refine Q9 (i + 1, m) (by dsimp only; omega) ⟨by dsimp only; omega, by dsimp only; omega⟩ (by exact Qu rfl ⟨rfl, rfl, rfl, rfl, by simp only [Int.natCast_add]; rfl, trivial⟩)
    · have h1' : pc = true := by simpa using h1
      rw [if_neg (by rw [h1']; decide)] at hq
      (refine Q0 (Qx (Qy (Qy (Qq fun K hK => ?_)))); refine Qz rfl rfl rfl ?_)
      refine Q8 (n := 5) rfl rfl rfl rfl rfl (by with_reducible exact lES) rfl ?_
      refine Ops.lookM2 (i := 8) (cv := adrF) (enc := esE) 0 sc rfl rfl rfl rfl (KeyIs.agg (us := esV sc) rfl) uMSeen z0Adr (fun _ _ => rfl) keyES rfl ?_
      generalize (look1 m sc).isSome = b at hq ⊢
      generalize (look1 m sc).getD 0 = a at hq ⊢
      (refine Qz rfl rfl rfl ?_; refine Qa rfl rfl rfl rfl ?_; refine Qa rfl rfl rfl rfl ?_; refine Qv rfl rfl rfl ?_; refine Qv rfl rfl rfl ?_; refine Qj (hK _ _ (Qx (Qy ?_))); clear hK K; refine Qq (fun K hK => ?_); refine Qz rfl rfl rfl ?_; refine Qz rfl rfl rfl ?_)
      refine ZZ 32 (b := b) rfl (fun h2 => ?_) (fun h2 => ?_)
      · (refine Qz rfl rfl rfl ?_; refine QY rfl rfl rfl (by with_reducible first | exact fS0 | exact fS1 | exact fS2 | exact fS3 | exact fS4 | exact fS5 | exact fS6 | exact fS7 | exact fS8 | exact fS9 | exact fS10 | exact fS11 | exact fN0 | exact fN1 | exact fN2 | exact fN3 | exact fN4 | exact fN5) rfl ?_; refine Z8 rfl rfl (by with_reducible first | exact fN0 | exact fN1 | exact fN2 | exact fN3 | exact fN4 | exact fN5) rfl ?_; refine QJ rfl rfl rfl rfl rfl (by with_reducible first | exact lInt | exact Qh | exact Qf | exact lRess) rfl ?_; refine Qk ineq rfl rfl rfl rfl ?_; refine QK rfl rfl rfl rfl ?_; refine Qj (hK _ _ (Qx ?_)); clear hK K)
        refine Q1 rfl (fun h3 => ?_) (fun h3 => ?_)
        · rw [if_pos ⟨h2, fun h => h3 (by rw [h])⟩] at hq
          (refine Qy (Qq fun K hK => ?_); refine Qz rfl rfl rfl ?_; refine Qv rfl rfl rfl ?_; refine Qj (hK _ _ (Qx (QU (QV (Q5 (QV (QV (Q5 (QV ?_))))))))); clear hK K)
          refine QW [_] rfl (QQ rfl QX) (by rw [hq]; rfl) rfl
        · rw [if_neg (fun h => h.2 (Fin.ext (by omega)))] at hq
          (refine Q0 (Qx (Qq fun K hK => ?_)); refine Qz rfl rfl rfl ?_)
          refine Q8 (n := 5) rfl rfl rfl rfl rfl (by with_reducible exact lES) rfl ?_
          (refine QY rfl rfl rfl (by with_reducible first | exact fS0 | exact fS1 | exact fS2 | exact fS3 | exact fS4 | exact fS5 | exact fS6 | exact fS7 | exact fS8 | exact fS9 | exact fS10 | exact fS11 | exact fN0 | exact fN1 | exact fN2 | exact fN3 | exact fN4 | exact fN5) rfl ?_; refine Z8 rfl rfl (by with_reducible first | exact fN0 | exact fN1 | exact fN2 | exact fN3 | exact fN4 | exact fN5) rfl ?_; refine QJ rfl rfl rfl rfl rfl (by with_reducible first | exact lInt | exact Qh | exact Qf | exact lRess) rfl ?_)
          refine Qp (i := 8) (enc := esE) (cv := adrF) sc c.fr rfl rfl rfl (KeyIs.agg (us := esV sc) rfl) rfl uMSeen keyES ?_
          (refine Qj (hK _ _ (Qx ?_)); clear hK K; refine Qq (fun K hK => ?_); refine Qk (iadd (by omega) (by omega)) rfl rfl rfl rfl ?_; refine Qz rfl rfl rfl ?_; refine Qj (hK _ _ (Q4 ?_)); clear hK K)
          refine Xj 3 ?_
          refine Xj 0 ?_
          refine Q9 (i + 1, ins m sc c.fr) (by dsimp only; omega) ⟨by dsimp only; omega, by dsimp only; omega⟩ (by exact Qu rfl ⟨rfl, rfl, rfl, rfl, by simp only [Int.natCast_add]; rfl, trivial⟩)
      · rw [if_neg (fun h => by rw [h2] at h; cases h.1)] at hq
        (refine Qw rfl rfl rfl ?_; refine Qw rfl rfl rfl ?_; refine Qw rfl rfl rfl ?_; refine Qw rfl rfl rfl ?_; refine Qw rfl rfl rfl ?_; refine Q6 rfl rfl rfl rfl ?_; refine Qj (hK _ _ (Qx (Xy rfl (Q0 (Qx ?_))))); clear hK K; refine Qq (fun K hK => ?_); refine Qz rfl rfl rfl ?_)
        refine Q8 (n := 5) rfl rfl rfl rfl rfl (by with_reducible exact lES) rfl ?_
        (refine QY rfl rfl rfl (by with_reducible first | exact fS0 | exact fS1 | exact fS2 | exact fS3 | exact fS4 | exact fS5 | exact fS6 | exact fS7 | exact fS8 | exact fS9 | exact fS10 | exact fS11 | exact fN0 | exact fN1 | exact fN2 | exact fN3 | exact fN4 | exact fN5) rfl ?_; refine Z8 rfl rfl (by with_reducible first | exact fN0 | exact fN1 | exact fN2 | exact fN3 | exact fN4 | exact fN5) rfl ?_; refine QJ rfl rfl rfl rfl rfl (by with_reducible first | exact lInt | exact Qh | exact Qf | exact lRess) rfl ?_)
        refine Qp (i := 8) (enc := esE) (cv := adrF) sc c.fr rfl rfl rfl (KeyIs.agg (us := esV sc) rfl) rfl uMSeen keyES ?_
        (refine Qj (hK _ _ (Qx ?_)); clear hK K; refine Qq (fun K hK => ?_); refine Qk (iadd (by omega) (by omega)) rfl rfl rfl rfl ?_; refine Qz rfl rfl rfl ?_; refine Qj (hK _ _ (Q4 ?_)); clear hK K)
        refine Xj 3 ?_
        refine Xj 0 ?_
        refine Q9 (i + 1, ins m sc c.fr) (by dsimp only; omega) ⟨by dsimp only; omega, by dsimp only; omega⟩ (by exact Qu rfl ⟨rfl, rfl, rfl, rfl, by simp only [Int.natCast_add]; rfl, trivial⟩)
  · have hi' : i = l.length := by omega
    rw [hi', List.drop_length] at hq
    simp only [clashG, Nat.add_zero] at hq
    (refine Qo (Qx (Qy (Qq fun K hK => ?_))); refine Qz rfl rfl rfl ?_; refine Qd rfl rfl (by with_reducible exact sRes.und) (List.length_map ..) rfl ?_; refine Qv rfl rfl rfl ?_; refine Qj (hK _ _ (Qx (QU ?_))); clear hK K)
    refine QW [_] rfl (QQ rfl QX) (by rw [hq]; rfl) rfl
theorem witG_loop {p : Rs → Bool} {z : Rs} : ∀ (l : List Rs) (i : Nat), (∀ j, j < i → j < l.length → p (l.getD j z) = false) → i ≤ l.length → l.findIdx? p = ((l.drop i).findIdx? p).map (· + i)
  | [], i, _, h => by
    have : i = 0 := by simpa using h
    subst this; rfl
  | a :: l, 0, _, _ => by simp
  | a :: l, i + 1, h, hi => by
    have h0 : p a = false := h 0 (Nat.succ_pos _) (Nat.succ_pos _)
    have ih := witG_loop l i (fun j h1 h2 => h (j + 1) (by omega) (by simpa using h2)) (by simpa using hi)
    rw [List.findIdx?_cons, h0, ih]
    simp only [List.drop_succ_cons, Bool.false_eq_true, if_false, Option.map_map, Function.comp_def]
    rfl
abbrev witC (o : List Rs) : List CT := match witG o with
  | some i => [ikC (idOf (o.getD i rs0)), ikC (idOf (o.getD (clashG [] o) rs0)), boolC true]
  | none => [ikC ⟨0, 0, 0⟩, ikC ⟨0, 0, 0⟩, boolC false]
theorem goWitness : InGo Tryz.prog 115 := InGo.of Tryz.func115 rfl (by decide)
theorem take_getD {l : List Rs} {z : Rs} {k i : Nat} (h : i < k) : (l.take k).getD i z = l.getD i z := by
  rw [List.getD_eq_getElem?_getD, List.getElem?_take_of_lt h, ← List.getD_eq_getElem?_getD]
theorem fidx_drop {p : Rs → Bool} {z : Rs} {l : List Rs} {k i : Nat} (hk : k ≤ l.length) (hi : i ≤ k) (h : ∀ j, j < i → p (l.getD j z) = false) : (l.take k).findIdx? p = (((l.take k).drop i).findIdx? p).map (· + i) := by
  refine witG_loop (z := z) (l.take k) i (fun j h1 h2 => ?_) (by rw [List.length_take]; omega)
  rw [List.getD_eq_getElem?_getD, List.getElem?_take_of_lt (by rw [List.length_take] at h2; omega), ← List.getD_eq_getElem?_getD]; exact h j h1
set_option maxHeartbeats 4000000 in
theorem Witness_ok (l : List Rs) (hl : l.length ≤ 10000) : Ok Tryz.prog 115 [rssC l] (.fr (tupT (witC (sd cmpR (l.filter okR))))) := by
  have hO := Order_ok l hl
  have hol : (sd cmpR (l.filter okR)).length ≤ 10000 := by
    have := sd_len cmpR (l.filter okR)
    have := List.length_filter_le okR l
    omega
  generalize sd cmpR (l.filter okR) = o at hO hol ⊢
  have hC := Clash_ok o (by omega)
  have hle := clashG_le o []
  have ew : witG o = if clashG [] o < o.length then (o.take (clashG [] o)).findIdx? (fun a => conB a (o.getD (clashG [] o) rs0)) else none := rfl
  have eC : (CT.fr (tupT (witC o))) = .fr (tupT (match witG o with
    | some i => [ikC (idOf (o.getD i rs0)), ikC (idOf (o.getD (clashG [] o) rs0)), boolC true]
    | none => [ikC ⟨0, 0, 0⟩, ikC ⟨0, 0, 0⟩, boolC false])) := rfl
  rw [eC]
  clear eC
  generalize clashG [] o = k at hC hle ew ⊢
  generalize witG o = wt at ew ⊢
  refine Ok.enter Tryz.func115 rfl _ Tryz.ntmps115 rfl ?_
  intro S w
  (refine Qy (Qq fun K hK => ?_))
  refine Qi 0 rfl rfl (by with_reducible exact zvID) rfl rfl rfl ?_
  refine Qi 1 rfl rfl (by with_reducible exact zvID) rfl rfl rfl ?_
  (refine Qv rfl rfl rfl ?_; refine Qj (hK _ _ (Qx (Qy ?_))); clear hK K; refine Qq (fun K hK => ?_); refine Qz rfl rfl rfl ?_)
  refine Z9 3 goOrder hO rfl rfl rfl rfl rfl rfl ?_
  refine Xs 3 _ rfl (Za _ _) XW ?_
  (refine Qv rfl rfl rfl ?_; refine Qj (hK _ _ (Qx (Qy ?_))); clear hK K; refine Qq (fun K hK => ?_); refine Qz rfl rfl rfl ?_)
  refine QZ goClash hC rfl rfl rfl rfl ?_
  (refine Qv rfl rfl rfl ?_; refine Qj (hK _ _ (Qx (Qy (Qy ?_)))); clear hK K; refine Qq (fun K hK => ?_); refine Qv rfl rfl rfl ?_; refine Qj (hK _ _ (Qx (Q2 ?_))); clear hK K)
  refine Xz (α := Nat) (fun i => i ≤ k ∧ (k < o.length → ∀ j, j < i → conB (o.getD j rs0) (o.getD k rs0) = false))
    (fun i => [(2, .own 0), (3, .own 1), (5, .ct (rssC o)), (6, .ct (intC k)), (7, .ct (intC i))]) (fun _ => [(1, .box 124 (ikCs ⟨0, 0, 0⟩)), (0, .box 124 (ikCs ⟨0, 0, 0⟩))]) (fun i => k - i) 0 ⟨Nat.zero_le _, fun _ j hj => by omega⟩ (by exact Qu rfl ⟨rfl, rfl, rfl, rfl, rfl, trivial⟩) ?_
  intro i ⟨hi, hq⟩
  try dsimp only
  (refine Qy (Qy (Qq fun K hK => ?_)); refine Qz rfl rfl rfl ?_; refine Qz rfl rfl rfl ?_; refine Qk ilss rfl rfl rfl rfl ?_; refine Qz rfl rfl rfl ?_)
  refine Qc 15 (p := (i : Int) < k) rfl (fun h => ?_) (fun h => ?_)
  · (refine Qz rfl rfl rfl ?_; refine Qz rfl rfl rfl ?_; refine Qd rfl rfl (by with_reducible exact sRes.und) (List.length_map ..) rfl ?_; refine Qk ilss rfl rfl rfl rfl ?_; refine QK rfl rfl rfl rfl ?_; refine Qj (hK _ _ (Qx ?_)); clear hK K)
    refine Q1 rfl (fun h2 => ?_) (fun h2 => ?_)
    · have hk : k < o.length := by omega
      rw [if_pos hk, fidx_drop (i := i) hle hi (hq hk)] at ew
      have e1 : (i : Int).toNat = i := Int.toNat_natCast i
      have e2 : (k : Int).toNat = k := Int.toNat_natCast k
      rw [drop_getD (z := rs0) (show i < (o.take k).length by rw [List.length_take]; omega), take_getD (by omega), List.findIdx?_cons] at ew
      have hCo := Contradict_ok (o.getD i rs0) (o.getD k rs0)
      have hn : conB (o.getD i rs0) (o.getD k rs0) = false → ∀ j, j < i + 1 → conB (o.getD j rs0) (o.getD k rs0) = false := fun h j hj => by
        rcases Nat.lt_or_ge j i with h3 | h3
        · exact hq hk j h3
        · have : j = i := by omega
          rw [this]; exact h
      generalize conB (o.getD i rs0) (o.getD k rs0) = cb at hCo hn ew
      have hA := Ze (o.getD i rs0)
      have hB := Ze (o.getD k rs0)
      (refine Q0 (Qx (Qy (Q2 (Qy ?_)))))
      refine XJ (by with_reducible exact mixed) 9 (.p 0 (.p 1 (.p 2 (.p 4 (.p 5 (.p 6 (.f 3 (.f 7 (.m 8 .done))))))))) (by kernel_rfl) (fun K hK => ?_)
      (refine Qz rfl rfl rfl ?_; refine Qz rfl rfl rfl ?_; refine Qm rfl rfl rfl (by with_reducible exact sRes) (by omega) (rss_at (by omega) (by omega)) rfl ?_; refine Qz rfl rfl rfl ?_; refine Qz rfl rfl rfl ?_; refine Qm rfl rfl rfl (by with_reducible exact sRes) (by omega) (rss_at (by omega) (by omega)) rfl ?_; refine Xr (n := 17) rfl rfl rfl (by with_reducible exact lRes) rfl rfl ?_; refine Xr (n := 17) rfl rfl rfl (by with_reducible exact lRes) rfl rfl ?_)
      rw [e1, e2]
      skip
      refine QZ goContradict hCo rfl rfl rfl rfl ?_
      (refine Qj (hK _ _ (Qx ?_)); clear hK K)
      refine XK rfl (fun h3 => ?_) (fun h3 => ?_)
      · rw [if_pos h3] at ew
        simp only [Option.map_some, Nat.zero_add] at ew
        (refine Qy ?_)
        refine XJ (by with_reducible exact mixed) 10 (.p 0 (.p 1 (.p 2 (.p 5 (.p 6 (.p 7 (.f 3 (.fork 4 (.m 8 (.m 9 (.a 10 (.a 11 (.p 12 .done))))) 8 (.m 4 (.m 9 (.a 10 (.a 11 (.p 12 .done))))))))))))) (by kernel_rfl) (fun K hK => ?_)
        (refine Qz rfl rfl rfl ?_; refine Qz rfl rfl rfl ?_; refine Qm rfl rfl rfl (by with_reducible exact sRes) (by omega) (rss_at (by omega) (by omega)) rfl ?_; refine Qz rfl rfl rfl ?_; refine Qz rfl rfl rfl ?_; refine Qm rfl rfl rfl (by with_reducible exact sRes) (by omega) (rss_at (by omega) (by omega)) rfl ?_; refine Xr (n := 17) rfl rfl rfl (by with_reducible exact lRes) rfl rfl ?_)
        rw [e1]
        skip
        refine Ops.fork ?_ ?_
        · refine QZ Z1 hA rfl rfl rfl rfl ?_
          (refine Xr (n := 17) rfl rfl rfl (by with_reducible exact lRes) rfl rfl ?_)
          rw [e2]
          skip
          refine QZ Z1 hB rfl rfl rfl rfl ?_
          skip
          refine Qb 3 rfl rfl rfl rfl rfl (by with_reducible exact szID) rfl rfl ?_
          refine Qb 3 rfl rfl rfl rfl rfl (by with_reducible exact szID) rfl rfl ?_
          (refine Qv rfl rfl rfl ?_; refine Qj (hK _ _ (Qx (QU (Q5 (QV (QV (Q5 (QV ?_)))))))); clear hK K)
          refine QW [_, _, _] rfl (Qg (n := 3) rfl rfl (by with_reducible exact lID) rfl (Qg (n := 3) rfl rfl (by with_reducible exact lID) rfl (QQ rfl QX))) (by rw [ew]; rfl) rfl
        · (refine Xr (n := 17) rfl rfl rfl (by with_reducible exact lRes) rfl rfl ?_)
          rw [e2]
          skip
          refine QZ Z1 hA rfl rfl rfl rfl ?_
          skip
          refine QZ Z1 hB rfl rfl rfl rfl ?_
          skip
          refine Qb 3 rfl rfl rfl rfl rfl (by with_reducible exact szID) rfl rfl ?_
          refine Qb 3 rfl rfl rfl rfl rfl (by with_reducible exact szID) rfl rfl ?_
          (refine Qv rfl rfl rfl ?_; refine Qj (hK _ _ (Qx (QU (Q5 (QV (QV (Q5 (QV ?_)))))))); clear hK K)
          refine QW [_, _, _] rfl (Qg (n := 3) rfl rfl (by with_reducible exact lID) rfl (Qg (n := 3) rfl rfl (by with_reducible exact lID) rfl (QQ rfl QX))) (by rw [ew]; rfl) rfl
      · (refine Q0 (Qx (Qq fun K hK => ?_)); refine Qz rfl rfl rfl ?_; refine Qk (iadd (by omega) (by omega)) rfl rfl rfl rfl ?_; refine Qv rfl rfl rfl ?_; refine Qj (hK _ _ (Q4 ?_)); clear hK K)
        refine Q9 (i + 1) (by omega) ⟨by omega, fun _ => hn h3⟩ (by exact Qu rfl ⟨rfl, rfl, rfl, rfl, by simp only [Int.natCast_add]; rfl, trivial⟩)
    · rw [if_neg (by omega)] at ew
      (refine Qo (Qx (Qy (Qq fun K hK => ?_))))
      refine Qn rfl (by with_reducible exact bID') rfl .nil rfl ?_
      refine Qn rfl (by with_reducible exact bID') rfl .nil rfl ?_
      refine Qb 3 rfl rfl rfl rfl rfl (by with_reducible exact szID) rfl rfl ?_
      refine Qb 3 rfl rfl rfl rfl rfl (by with_reducible exact szID) rfl rfl ?_
      (refine Qv rfl rfl rfl ?_; refine Qj (hK _ _ (Qx (QU ?_))); clear hK K)
      refine QW [_, _, _] rfl (Qg (n := 3) rfl rfl (by with_reducible exact lID) rfl (Qg (n := 3) rfl rfl (by with_reducible exact lID) rfl (QQ rfl QX))) (by rw [ew]; rfl) rfl
  · have ew : wt = none := by
      rw [ew]
      split
      · rename_i hk
        rw [fidx_drop (i := i) hle hi (hq hk), show i = k by omega, List.drop_of_length_le (by rw [List.length_take]; omega)]; rfl
      · rfl
    (refine Qw rfl rfl rfl ?_; refine Qw rfl rfl rfl ?_; refine Qw rfl rfl rfl ?_; refine Qw rfl rfl rfl ?_; refine Q6 rfl rfl rfl rfl ?_; refine Qj (hK _ _ (Qx (Xy rfl (Qo (Qx (Qy ?_)))))); clear hK K; refine Qq (fun K hK => ?_))
    refine Qn rfl (by with_reducible exact bID') rfl .nil rfl ?_
    refine Qn rfl (by with_reducible exact bID') rfl .nil rfl ?_
    refine Qb 3 rfl rfl rfl rfl rfl (by with_reducible exact szID) rfl rfl ?_
    refine Qb 3 rfl rfl rfl rfl rfl (by with_reducible exact szID) rfl rfl ?_
    (refine Qv rfl rfl rfl ?_; refine Qj (hK _ _ (Qx (QU ?_))); clear hK K)
    refine QW [_, _, _] rfl (Qg (n := 3) rfl rfl (by with_reducible exact lID) rfl (Qg (n := 3) rfl rfl (by with_reducible exact lID) rfl (QQ rfl QX))) (by rw [ew]; rfl) rfl
theorem goConsistent : InGo Tryz.prog 74 := InGo.of Tryz.func74 rfl (by decide)
def consB (l : List Rs) : Bool := (witG (sd cmpR (l.filter okR))).isNone
theorem Consistent_ok (l : List Rs) (hl : l.length ≤ 10000) : Ok Tryz.prog 74 [rssC l] (boolC (consB l)) := by
  have hW := Witness_ok l hl
  have e0 : consB l = (witG (sd cmpR (l.filter okR))).isNone := rfl
  have hw : ∃ i j : Ik, witC (sd cmpR (l.filter okR)) = [ikC i, ikC j, boolC (!consB l)] := by
    rw [e0]
    unfold witC
    cases witG (sd cmpR (l.filter okR)) <;> exact ⟨_, _, rfl⟩
  obtain ⟨a, b, hw⟩ := hw
  rw [hw] at hW
  generalize consB l = c at hW ⊢
  refine Ok.enter Tryz.func74 rfl _ Tryz.ntmps74 rfl ?_
  intro S w
  (refine Qy (Qq fun K hK => ?_); refine Qv rfl rfl rfl ?_; refine Qj (hK _ _ (Qx (Qy ?_))); clear hK K; refine Qq (fun K hK => ?_); refine Qz rfl rfl rfl ?_)
  refine QZ goWitness hW rfl rfl rfl rfl ?_
  (refine Qz rfl rfl rfl ?_; refine Qa rfl rfl rfl rfl ?_; refine Qa rfl rfl rfl rfl ?_; refine Qa rfl rfl rfl rfl ?_)
  refine Qi 0 rfl rfl (by with_reducible exact zvID) rfl rfl rfl ?_
  refine Qi 1 rfl rfl (by with_reducible exact zvID) rfl rfl rfl ?_
  refine Qb 3 rfl rfl rfl rfl rfl (by with_reducible exact szID) rfl rfl ?_
  refine Qb 3 rfl rfl rfl rfl rfl (by with_reducible exact szID) rfl rfl ?_
  (refine Qv rfl rfl rfl ?_; refine Qj (hK _ _ (Qx (Qy ?_))); clear hK K; refine Qq (fun K hK => ?_); refine Qz rfl rfl rfl ?_; refine Qs rfl rfl rfl ?_; refine Qv rfl rfl rfl ?_; refine Qj (hK _ _ (Qx (QU ?_))); clear hK K)
  refine QW [_] rfl (QQ rfl QX) (by rw [Bool.not_not]; rfl) rfl
end Go.Proofs.YtlkdkbdgnjcopaaGreat
namespace Go.Proofs.YtlkdkbdgnjcopaaGreat
open Go.Own Go.Limbs
def chkF (l : List Rs) : Int := if (l.any fun r => !okR r) = true then 1 else if 512 < ((sd cmpR (l.filter okR)).length : Int) then 5 else if consB l = true then 0 else 30
def crsF (l : List Rs) (w : Wr) (b : Bool) : List Rs := (sd cmpR (l.filter okR)).filter fun r => decide (w ∈ wayF l r) && (r.an == b)
structure Cn where
  wr : Wr
  se : Int
  lo : Int
  hi : Int
deriving DecidableEq
def cn0 : Cn := ⟨(0, 0), 0, 0, 0⟩
def cntF (l : List Rs) (w : Wr) (b : Int) : Cn × Int :=
  if b < 0 ∨ 1048576 < b then (cn0, 1)
  else if chkF l ≠ 0 then (cn0, chkF l)
  else if (crsF l w true).length + (crsF l w false).length = 0 then (cn0, 8)
  else (⟨w, ((crsF l w true).length : Int) + (crsF l w false).length, max 0 ((crsF l w false).length - b), (crsF l w false).length⟩, 0)
def adN (t : Int) : Fin 4294967296 := ⟨t.toNat % 4294967296, Nat.mod_lt _ (by decide)⟩
theorem adN_val {t : Int} (h : 0 ≤ t) (h2 : t < 4294967296) : ((adN t).val : Int) = t := by unfold adN; simp only; omega
def chF : Nat → Int → List (Fin 4294967296)
  | 0, _ => []
  | c + 1, t => adN t :: chF c (t + 1)
structure Chain (n : Nat) (t0 : Tk) (l : List Rs) : Prop where
  up : Up cmpR l
  ok : ∀ r ∈ l, okR r = true ∧ r.db = false ∧ r.fl = 0 ∧ trOf r = t0 ∧ 1 ≤ r.tt ∧ r.tt ≤ n ∧ (r.an = true → r.ki = 1 ∧ r.fr = adN r.tt)
  all : ∀ t : Int, 1 ≤ t → t ≤ n → ∃ r ∈ l, r.an = true ∧ r.tt = t
variable {n : Nat} {t0 : Tk} {l : List Rs}
theorem endF_zero : ∀ (l : List Rs) (e : Int), (∀ r ∈ l, fiR r = false) → l.foldl endS e = e
  | [], _, _ => rfl
  | r :: l, e, h => by
    have h1 : endS e r = e := by unfold endS; rw [if_neg (by rw [h r (List.mem_cons_self ..)]; simp)]
    rw [List.foldl_cons, h1]
    exact endF_zero l e fun x hx => h x (List.mem_cons_of_mem _ hx)
abbrev stV (m : AdM × StM) (t : Int) : Int := (look1 m.2 (0, t)).getD 0
def invM (m : AdM × StM) : Prop := ∀ t : Int, stV m t ≤ 1 ∨ (stV m t = 2 ∧ look1 m.1 (0, t) = some (adN t))
theorem look_chain : ∀ (q : List Rs) (m : AdM × StM), (∀ r ∈ q, usR r = true ∧ r.fl = 0 ∧ (r.an = true → r.fr = adN r.tt)) → invM m →
    invM (q.foldl (lookS 0) m) ∧ ∀ t, (stV m t = 2 ∨ ∃ r ∈ q, r.an = true ∧ r.tt = t) → stV (q.foldl (lookS 0) m) t = 2
  | [], m, _, hm => ⟨hm, fun t h => h.elim id fun ⟨_, h, _⟩ => by cases h⟩
  | r :: q, m, hq, hm => by
    obtain ⟨h1, h2, h3⟩ := hq r (List.mem_cons_self ..)
    have key : invM (lookS 0 m r) ∧ ∀ t, (stV m t = 2 ∨ (r.an = true ∧ r.tt = t)) → stV (lookS 0 m r) t = 2 := by
      unfold lookS
      rw [if_neg (by rw [h1]; simp), h2]
      cases ha : r.an with
      | false =>
        rw [if_pos rfl]
        refine ⟨fun t => ?_, fun t h => ?_⟩
        · simp only [stV, Zd]
          have := hm t
          by_cases e : t = r.tt
          · subst e
            rw [if_pos rfl]
            simp only [Option.getD_some]
            unfold stV at this
            rcases this with h | ⟨h, h'⟩
            · left; omega
            · right; exact ⟨by omega, h'⟩
          · rw [if_neg (by intro h; injection h with _ h; exact e h)]
            exact this
        · simp only [stV, Zd]
          rcases h with h | ⟨h, _⟩
          · by_cases e : t = r.tt
            · subst e
              rw [if_pos rfl]
              simp only [Option.getD_some]
              unfold stV at h
              omega
            · rw [if_neg (by intro h; injection h with _ h; exact e h)]; exact h
          · cases h
      | true =>
        rw [if_neg (by decide)]
        have h4 := h3 ha
        have hr := hm r.tt
        unfold stV at hr
        by_cases hs : (look1 m.2 (0, r.tt)).getD 0 ≤ 1
        · rw [if_pos hs]
          refine ⟨fun t => ?_, fun t h => ?_⟩
          · simp only [stV, Zd]
            by_cases e : t = r.tt
            · subst e
              rw [if_pos rfl, if_pos rfl, h4]
              right; exact ⟨rfl, rfl⟩
            · rw [if_neg (by intro h; injection h with _ h; exact e h), if_neg (by intro h; injection h with _ h; exact e h)]
              exact hm t
          · simp only [stV, Zd]
            by_cases e : t = r.tt
            · subst e; rw [if_pos rfl]; rfl
            · rw [if_neg (by intro h; injection h with _ h; exact e h)]
              rcases h with h | ⟨_, h⟩
              · exact h
              · exact absurd h.symm e
        · rw [if_neg hs]
          rcases hr with hr | ⟨hr, hr'⟩
          · exact absurd hr hs
          · rw [if_neg (by rw [hr', h4]; simp)]
            refine ⟨hm, fun t h => ?_⟩
            rcases h with h | ⟨_, h⟩
            · exact h
            · subst h; exact hr
    obtain ⟨k1, k2⟩ := key
    obtain ⟨i1, i2⟩ := look_chain q (lookS 0 m r) (fun x hx => hq x (List.mem_cons_of_mem _ hx)) k1
    refine ⟨i1, fun t h => i2 t ?_⟩
    rcases h with h | ⟨x, hx, h⟩
    · exact .inl (k2 t (.inl h))
    · rcases List.mem_cons.1 hx with rfl | hx
      · exact .inl (k2 t (.inr h))
      · exact .inr ⟨x, hx, h⟩
theorem Chain.us (h : Chain n t0 l) {r : Rs} (hr : r ∈ l) : usR r = true := by
  obtain ⟨h1, h2, _⟩ := h.ok r hr
  unfold usR; rw [h1, h2]; rfl
theorem Chain.fi (h : Chain n t0 l) : ∀ r ∈ l, fiR r = false := fun r hr => by
  obtain ⟨_, _, _, _, _, _, h3⟩ := h.ok r hr
  unfold fiR
  cases ha : r.an with
  | false => rfl
  | true => rw [(h3 ha).1]; rfl
theorem Chain.look (h : Chain n t0 l) : lookG l = l.foldl (lookS 0) ([], []) := by
  have h1 : endF l = 0 := endF_zero l 0 h.fi
  unfold lookG; rw [h1]
theorem pathG_chain {m : AdM × StM} (h1 : ∀ t : Int, 1 ≤ t → t ≤ n → stV m t = 2 ∧ look1 m.1 (0, t) = some (adN t)) (h2 : hasS m.2 0 (n + 1) = false) :
    ∀ (c k : Nat) (t : Int), 1 ≤ t → t + c = n + 1 → c < k → pathG m 0 k t = chF c t
  | 0, k + 1, t, _, he, _ => by
    unfold pathG
    have : t = (n : Int) + 1 := by omega
    rw [this, h2]; rfl
  | c + 1, k + 1, t, ht, he, hk => by
    obtain ⟨a1, a2⟩ := h1 t ht (by omega)
    have : hasS m.2 0 t = true := by unfold hasS; unfold stV at a1; rw [a1]; rfl
    unfold pathG chF
    rw [if_pos this, a2, pathG_chain h1 h2 c k (t + 1) (by omega) (by omega) (by omega)]
    rfl
  | _, 0, _, _, _, h => by omega
theorem Chain.path (h : Chain n t0 l) (hn : n < 256) : pathF l 0 = chF n 1 := by
  unfold pathF
  obtain ⟨i1, i2⟩ := look_chain l ([], []) (fun r hr => ⟨h.us hr, (h.ok r hr).2.2.1, fun ha => ((h.ok r hr).2.2.2.2.2.2 ha).2⟩) (fun t => .inl (by show (0 : Int) ≤ 1; decide))
  rw [← h.look] at i1 i2
  refine pathG_chain (n := n) (fun t h1 h2 => ?_) ?_ n 256 1 (by decide) (by omega) hn
  · have e := i2 t (.inr (h.all t h1 h2))
    refine ⟨e, ?_⟩
    rcases i1 t with h3 | h3
    · rw [e] at h3; exact absurd h3 (by decide)
    · exact h3.2
  · cases hb : hasS (lookG l).2 0 (n + 1) with
    | false => rfl
    | true =>
      unfold hasS at hb
      cases e : look1 (lookG l).2 (0, (n : Int) + 1) with
      | none => rw [e] at hb; simp at hb
      | some v =>
        obtain ⟨_, r, hr, _, hs⟩ := lookG_keys l _ _ e
        injection hs with _ hs
        have := (h.ok r hr).2.2.2.2.2.1
        omega
theorem Chain.sd (h : Chain n t0 l) : sd cmpR (l.filter okR) = l := by
  have : l.filter okR = l := List.filter_eq_self.2 fun r hr => (h.ok r hr).1
  rw [this]; exact sd_eq ordR h.up
def wk (k : Int) : Wr := (adN (k - 1), adN k)
theorem Chain.way (h : Chain n t0 l) (hn : n ≤ 3) {r : Rs} (hr : r ∈ l) {k : Int} (h1 : 1 ≤ k) (h2 : k ≤ n) : decide (wk k ∈ wayF l r) = decide (k ≤ r.tt) := by
  obtain ⟨_, _, hf, ht, ha, hb, _⟩ := h.ok r hr
  have e : ((l.filter fun x => decide (trOf x = trOf r))) = l := List.filter_eq_self.2 fun x hx => by rw [(h.ok x hx).2.2.2.1, ht]; simp
  have hl : (chF n 1).length = n := by
    have : ∀ c t, (chF c t).length = c := fun c => by
      induction c with
      | zero => intro _; rfl
      | succ c ih => intro t; show (chF c (t + 1)).length + 1 = _; rw [ih]
    exact this n 1
  unfold wayF
  rw [if_neg (by rw [h.us hr]; simp), h.sd, e, hf, h.path (by omega)]
  simp only [hl]
  rw [if_pos hb]
  generalize r.tt = t at ha hb ⊢
  have hn' : n = 1 ∨ n = 2 ∨ n = 3 := by omega
  rcases hn' with rfl | rfl | rfl
  · have : t = 1 := by omega
    have : k = 1 := by omega
    subst_vars; decide
  · have ht : t = 1 ∨ t = 2 := by omega
    have hk : k = 1 ∨ k = 2 := by omega
    rcases ht with rfl | rfl <;> rcases hk with rfl | rfl <;> decide
  · have ht : t = 1 ∨ t = 2 ∨ t = 3 := by omega
    have hk : k = 1 ∨ k = 2 ∨ k = 3 := by omega
    rcases ht with rfl | rfl | rfl <;> rcases hk with rfl | rfl | rfl <;> decide
theorem clash_chain : ∀ (q : List Rs) (m : SeenM), (∀ r ∈ q, r.an = true → r.fr = adN r.tt) → (∀ s v, look1 m s = some v → v = adN s.2.2) → clashG m q = q.length
  | [], _, _, _ => rfl
  | r :: q, m, hq, hm => by
    have ih := fun m' => clash_chain q m' fun x hx => hq x (List.mem_cons_of_mem _ hx)
    unfold clashG
    rw [List.length_cons]
    by_cases hp : plB r = false
    · rw [if_pos hp, ih m hm]
    · rw [if_neg hp]
      have ha : r.an = true := by
        unfold plB at hp
        cases h : r.an with
        | true => rfl
        | false => rw [h] at hp; exact absurd rfl hp
      have hr := hq r (List.mem_cons_self ..) ha
      rw [if_neg, ih]
      · intro s v hs
        rw [Zd] at hs
        split at hs
        · rename_i e; subst e; injection hs with hs; rw [← hs]; exact hr
        · exact hm s v hs
      · rintro ⟨h1, h2⟩
        obtain ⟨v, hv⟩ := Option.isSome_iff_exists.1 h1
        rw [hv] at h2
        exact h2 (by rw [hr]; exact hm _ v hv)
theorem Chain.cons (h : Chain n t0 l) : consB l = true := by
  unfold consB witG
  rw [h.sd, clash_chain l [] (fun r hr ha => ((h.ok r hr).2.2.2.2.2.2 ha).2) (fun _ _ h => by cases h)]
  simp
theorem Chain.chk (h : Chain n t0 l) (hl : l.length ≤ 512) : chkF l = 0 := by
  unfold chkF
  rw [if_neg, h.sd, if_neg (by omega), if_pos h.cons]
  intro h'
  obtain ⟨r, hr, h1⟩ := List.any_eq_true.1 h'
  rw [(h.ok r hr).1] at h1; cases h1
theorem Chain.crs (h : Chain n t0 l) (hn : n ≤ 3) {k : Int} (h1 : 1 ≤ k) (h2 : k ≤ n) (b : Bool) : (crsF l (wk k) b).length = l.countP fun r => decide (k ≤ r.tt) && (r.an == b) := by
  unfold crsF
  rw [h.sd, ← List.countP_eq_length_filter]
  exact List.countP_congr fun r hr => by rw [h.way hn hr h1 h2]
theorem Chain.cnt (h : Chain n t0 l) (hn : n ≤ 3) (hl : l.length ≤ 512) {k b : Int} (h1 : 1 ≤ k) (h2 : k ≤ n) (hb : 0 ≤ b) (hb2 : b ≤ 1048576) :
    cntF l (wk k) b = (⟨wk k, ((l.countP fun r => decide (k ≤ r.tt) && (r.an == true) : Nat) : Int) + (l.countP fun r => decide (k ≤ r.tt) && (r.an == false) : Nat), max 0 ((l.countP fun r => decide (k ≤ r.tt) && (r.an == false) : Nat) - b), (l.countP fun r => decide (k ≤ r.tt) && (r.an == false) : Nat)⟩, 0) := by
  have hs := h.crs hn h1 h2 true
  have hf := h.crs hn h1 h2 false
  have hp : 0 < l.countP fun r => decide (k ≤ r.tt) && (r.an == true) := by
    obtain ⟨r, hr, ha, ht⟩ := h.all k h1 h2
    exact List.countP_pos_iff.2 ⟨r, hr, by rw [ha, ht]; simp⟩
  unfold cntF
  rw [if_neg (by omega), if_neg (by rw [h.chk hl]; simp), if_neg (by omega), hs, hf]
def mkX (o k t w : Int) : Rs := ⟨0, 0, k, 10 * k, 9, 17, 0, t, decide (w = 0), false, 10 * k + o, if w = 0 then adN t else 0, if w = 0 then 1 else 0, 0, 0, 0, 0⟩
def xF (o : Int) : Int → List (Int × Int) → List Rs
  | _, [] => []
  | i, p :: d => mkX o i p.1 p.2 :: xF o (i + 1) d
theorem xF_len (o : Int) : ∀ (d : List (Int × Int)) (i : Int), (xF o i d).length = d.length
  | [], _ => rfl
  | _ :: d, i => by show (xF o (i + 1) d).length + 1 = _; rw [xF_len o d]; rfl
theorem xF_snoc (o : Int) (p : Int × Int) : ∀ (d : List (Int × Int)) (i : Int), xF o i (d ++ [p]) = xF o i d ++ [mkX o (i + d.length) p.1 p.2]
  | [], i => by show [mkX o i p.1 p.2] = [mkX o (i + ((0 : Nat) : Int)) p.1 p.2]; rw [Int.natCast_zero, Int.add_zero]
  | q :: d, i => by
    show mkX o i q.1 q.2 :: xF o (i + 1) (d ++ [p]) = mkX o i q.1 q.2 :: xF o (i + 1) d ++ [_]
    rw [xF_snoc o p d, List.length_cons, List.cons_append]
    have : i + 1 + (d.length : Int) = i + ((d.length + 1 : Nat) : Int) := by omega
    rw [this]
theorem xF_mem {o : Int} {r : Rs} : ∀ {d : List (Int × Int)} {i : Int}, r ∈ xF o i d → ∃ k p, p ∈ d ∧ i ≤ k ∧ k < i + d.length ∧ r = mkX o k p.1 p.2
  | [], _, h => by cases h
  | q :: d, i, h => by
    rcases List.mem_cons.1 h with rfl | h
    · exact ⟨i, q, List.mem_cons_self .., by omega, by rw [List.length_cons]; omega, rfl⟩
    · obtain ⟨k, p, h1, h2, h3, h4⟩ := xF_mem h
      exact ⟨k, p, List.mem_cons_of_mem _ h1, by omega, by rw [List.length_cons]; omega, h4⟩
theorem xF_has {o : Int} {p : Int × Int} : ∀ {d : List (Int × Int)} {i : Int}, p ∈ d → ∃ k, mkX o k p.1 p.2 ∈ xF o i d
  | q :: d, i, h => by
    rcases List.mem_cons.1 h with rfl | h
    · exact ⟨i, List.mem_cons_self ..⟩
    · obtain ⟨k, hk⟩ := xF_has (i := i + 1) h
      exact ⟨k, List.mem_cons_of_mem _ hk⟩
theorem cmpL_lt {x y : Int} {xs ys : List Int} (h : x < y) : cmpL (x :: xs) (y :: ys) < 0 := by
  have h1 : cmp3 x y = -1 := by unfold cmp3; rw [if_pos h]
  have h2 : cmpL (x :: xs) (y :: ys) = if cmp3 x y ≠ 0 then cmp3 x y else cmpL xs ys := rfl
  rw [h2, if_pos (by rw [h1]; decide), h1]; decide
theorem xF_up (o : Int) : ∀ (d : List (Int × Int)) (i : Int), Up cmpR (xF o i d)
  | [], _ => List.Pairwise.nil
  | p :: d, i => by
    refine List.pairwise_cons.2 ⟨fun r hr => ?_, xF_up o d (i + 1)⟩
    obtain ⟨k, q, _, h1, _, rfl⟩ := xF_mem hr
    exact cmpL_lt (show 10 * i < 10 * k by omega)
theorem xF_countP {o : Int} {f : Int → Bool → Bool} : ∀ (d : List (Int × Int)) (i : Int), (xF o i d).countP (fun r => f r.tt r.an) = d.countP fun p => f p.1 (decide (p.2 = 0))
  | [], _ => rfl
  | p :: d, i => by
    show (mkX o i p.1 p.2 :: xF o (i + 1) d).countP _ = _
    rw [List.countP_cons, List.countP_cons, xF_countP d]
    rfl
def x0T : Tk := ⟨0, 9, 17⟩
theorem xF_chain {o : Int} {n : Nat} {d : List (Int × Int)} (ho : 0 ≤ o ∧ o ≤ 9) (hn : n ≤ 255) (hd : d.length ≤ 900) (h1 : ∀ p ∈ d, 1 ≤ p.1 ∧ p.1 ≤ n) (h2 : ∀ t : Int, 1 ≤ t → t ≤ n → (t, 0) ∈ d) : Chain n x0T (xF o 0 d) where
  up := xF_up o d 0
  ok r hr := by
    obtain ⟨k, p, hp, hk1, hk2, rfl⟩ := xF_mem hr
    obtain ⟨ht1, ht2⟩ := h1 p hp
    have hv := adN_val (t := p.1) (by omega) (by omega)
    refine ⟨?_, rfl, rfl, rfl, ht1, ht2, fun ha => ?_⟩
    · have hP1 : ¬ P1 (mkX o k p.1 p.2) := by unfold P1 mkX; simp only; omega
      have hP2 : ¬ P2 (mkX o k p.1 p.2) := by unfold P2 mkX; simp only; omega
      by_cases hw : p.2 = 0
      · have hP3 : ¬ P3 (mkX o k p.1 p.2) := by unfold P3 mkX; simp [hw]
        have hP4 : ¬ P4 (mkX o k p.1 p.2) := by unfold P4 mkX; simp only [hw, if_true]; omega
        have hck : ckE (mkX o k p.1 p.2) = 0 := by unfold ckE; rw [if_neg hP1, if_neg hP2, if_neg hP3, if_neg hP4]
        have hf : (mkX o k p.1 p.2).fr.val ≠ 0 := by
          show (if p.2 = 0 then adN p.1 else 0).val ≠ 0
          rw [if_pos hw]; omega
        unfold okR
        rw [hck, decide_eq_true hf]
        simp [mkX]
      · have e1 : (mkX o k p.1 p.2).an = false := decide_eq_false hw
        have hP3 : ¬ P3 (mkX o k p.1 p.2) := by unfold P3 mkX anI; simp [hw]
        have hP4 : ¬ P4 (mkX o k p.1 p.2) := by unfold P4; rw [e1]; simp
        have hck : ckE (mkX o k p.1 p.2) = 0 := by unfold ckE; rw [if_neg hP1, if_neg hP2, if_neg hP3, if_neg hP4]
        unfold okR
        rw [hck, e1]
        simp [mkX]
    · have hw : p.2 = 0 := of_decide_eq_true ha
      refine ⟨?_, ?_⟩ <;> show (if p.2 = 0 then _ else _) = _ <;> rw [if_pos hw]
      rfl
  all t ht1 ht2 := by
    obtain ⟨k, hk⟩ := xF_has (o := o) (i := 0) (h2 t ht1 ht2)
    exact ⟨_, hk, rfl, rfl⟩
theorem xF_cnt {o : Int} {n : Nat} {d : List (Int × Int)} (ho : 0 ≤ o ∧ o ≤ 9) (hn : n ≤ 3) (hd : d.length ≤ 500) (h1 : ∀ p ∈ d, 1 ≤ p.1 ∧ p.1 ≤ n) (h2 : ∀ t : Int, 1 ≤ t → t ≤ n → (t, 0) ∈ d) {k b : Int} (hk1 : 1 ≤ k) (hk2 : k ≤ n) (hb : 0 ≤ b) (hb2 : b ≤ 1048576) :
    cntF (xF o 0 d) (wk k) b = (⟨wk k, ((d.countP fun p => decide (k ≤ p.1) && (decide (p.2 = 0) == true) : Nat) : Int) + (d.countP fun p => decide (k ≤ p.1) && (decide (p.2 = 0) == false) : Nat), max 0 ((d.countP fun p => decide (k ≤ p.1) && (decide (p.2 = 0) == false) : Nat) - b), (d.countP fun p => decide (k ≤ p.1) && (decide (p.2 = 0) == false) : Nat)⟩, 0) := by
  rw [(xF_chain ho (by omega) (by omega) h1 h2).cnt hn (by rw [xF_len]; omega) hk1 hk2 hb hb2]
  rw [xF_countP (f := fun t a => decide (k ≤ t) && (a == true)), xF_countP (f := fun t a => decide (k ≤ t) && (a == false))]
end Go.Proofs.YtlkdkbdgnjcopaaGreat
namespace Go.Limbs
def trimL : List Int → List Int
  | [] => []
  | x :: xs => match trimL xs with
    | [] => if x = 0 then [] else [x]
    | y :: ys => x :: y :: ys
theorem trim_snoc (ys : List Int) : trimL (ys ++ [0]) = trimL ys := by
  induction ys with
  | nil => simp [trimL]
  | cons y ys ih => simp only [List.cons_append, trimL, ih]
theorem trim_id {ys : List Int} {z : Int} (hz : z ≠ 0) : trimL (ys ++ [z]) = ys ++ [z] := by
  induction ys with
  | nil => simp [trimL, hz]
  | cons y ys ih =>
    simp only [List.cons_append, trimL, ih]
    cases ys <;> rfl
theorem trim_last {ys : List Int} (h : 0 < ys.length) (h0 : ys.getD (ys.length - 1) 0 = 0) : trimL (ys.take (ys.length - 1)) = trimL ys := by
  obtain ⟨zs, z, rfl⟩ : ∃ zs z, ys = zs ++ [z] := ⟨ys.dropLast, ys.getLast (by intro e; subst e; simp at h), (List.dropLast_concat_getLast _).symm⟩; simp at h0; subst h0; rw [trim_snoc]; simp
theorem trim_done {ys : List Int} (h : 0 < ys.length → ys.getD (ys.length - 1) 0 ≠ 0) : trimL ys = ys := by
  rcases Nat.eq_zero_or_pos ys.length with h0 | h0
  · have : ys = [] := List.eq_nil_of_length_eq_zero h0; subst this; rfl
  · obtain ⟨zs, z, rfl⟩ : ∃ zs z, ys = zs ++ [z] := ⟨ys.dropLast, ys.getLast (by intro e; subst e; simp at h0), (List.dropLast_concat_getLast _).symm⟩; have := h h0; simp at this; exact trim_id this
theorem trim_len (xs : List Int) : (trimL xs).length ≤ xs.length := by
  induction xs with
  | nil => simp [trimL]
  | cons x xs ih =>
    simp only [trimL]; split
    · split <;> simp
    · rename_i y ys e; rw [e] at ih; simp at ih ⊢; omega
end Go.Limbs
namespace Go.Proofs.YtlkdkbdgnjcopaaGreat
open Go.Own Go.Limbs
def idxI {α : Type} (p : α → Bool) (xs : List α) : Int := if xs.any p then (xs.findIdx p : Nat) else -1
theorem idxI_hit {α : Type} {p : α → Bool} {xs : List α} {z : α} {i : Nat} (h : i < xs.length) (hp : p (xs.getD i z) = true) (hn : ∀ j, j < i → p (xs.getD j z) = false) : idxI p xs = i := by
  have e : ∀ j (hj : j < xs.length), xs.getD j z = xs[j] := fun j hj => by simp [List.getD_eq_getElem?_getD, List.getElem?_eq_getElem hj]
  unfold idxI
  rw [if_pos (List.any_eq_true.mpr ⟨xs[i], List.getElem_mem h, by rw [← e i h]; exact hp⟩)]
  congr 1
  rw [List.findIdx_eq h]
  exact ⟨by rw [← e i h]; exact hp, fun j hj => by rw [← e j (by omega)]; exact hn j hj⟩
theorem idxI_miss {α : Type} {p : α → Bool} {xs : List α} {z : α} (hn : ∀ j, j < xs.length → p (xs.getD j z) = false) : idxI p xs = -1 := by
  have e : ∀ j (hj : j < xs.length), xs.getD j z = xs[j] := fun j hj => by simp [List.getD_eq_getElem?_getD, List.getElem?_eq_getElem hj]
  unfold idxI
  rw [if_neg]
  rw [Bool.not_eq_true, List.any_eq_false]
  intro x hx
  obtain ⟨j, hj, rfl⟩ := List.getElem_of_mem hx
  rw [← e j hj, hn j hj]; decide
theorem idxI_any {α : Type} (p : α → Bool) (xs : List α) : decide (0 ≤ idxI p xs) = xs.any p := by
  unfold idxI; split
  · rename_i h; rw [h]; simp
  · rename_i h; simp at h; rw [show decide ((0 : Int) ≤ -1) = false by decide]; symm; rw [List.any_eq_false]; simpa using h
theorem getD_mem {α : Type} {xs : List α} {z : α} {i : Nat} (h : i < xs.length) : xs.getD i z ∈ xs := by
  simp [List.getD_eq_getElem?_getD, List.getElem?_eq_getElem h]
attribute [local irreducible] Go.Own.Fin Ok OkB OkF OkL OkM OkN OkT Ops St
set_option maxHeartbeats 2000000 in
theorem IndexFunc_res (xs : List Rs) (f : FuncId) (p : Rs → Bool) (hgo : InGo Tryz.prog f) (hf : ∀ x ∈ xs, Ok Tryz.prog f [rsC x] (boolC (p x))) (hl : xs.length < 4611686018427387904) : Ok Tryz.prog 113 [rssC xs, (.ex (.func (.func f) #[] #[]))] (intC (idxI p xs)) := by
  refine Ok.enter Tryz.func113 rfl _ Tryz.ntmps113 rfl ?_
  intro S w
  (refine Qy (Qq fun K hK => ?_); refine Qv rfl rfl rfl ?_; refine Qj (hK _ _ (Qx (Qy (Qy ?_)))); clear hK K; refine Qq (fun K hK => ?_); refine Qz rfl rfl rfl ?_; refine Qd rfl rfl (by with_reducible exact sRes.und) (List.length_map ..) rfl ?_; refine Qz rfl rfl rfl ?_; refine Qj (hK _ _ (Qx (Q2 ?_))); clear hK K)
  refine Xz (α := Nat) (fun i => i ≤ xs.length ∧ ∀ j, j < i → p (xs.getD j rs0) = false)
    (fun i => [(0, .ct (rssC xs)), (1, .ct (.ex (.func (.func f) #[] #[]))), (7, .ct (intC xs.length)), (8, .ct (intC i))]) (fun _ => []) (fun i => xs.length - i) 0 ⟨Nat.zero_le _, fun j h => absurd h (Nat.not_lt_zero j)⟩ (by exact Qu rfl ⟨rfl, rfl, rfl, rfl, trivial⟩) ?_
  intro i ⟨hi, hv⟩
  dsimp only
  (refine Qy (Qq fun K hK => ?_); refine Qk ilss rfl rfl rfl rfl ?_; refine Qj (hK _ _ (Qx (Qy ?_))); clear hK K)
  refine Q1 rfl (fun h => ?_) (fun h => ?_)
  · have e2 : (i : Int).toNat = i := Int.toNat_natCast i
    (refine Q0 (Qx (Qy (Q2 (Qy (Qq fun K hK => ?_))))); refine Qz rfl rfl rfl ?_; refine Qv rfl rfl rfl ?_; refine Qj (hK _ _ (Qx (Qy ?_))); clear hK K; refine Qq (fun K hK => ?_); refine Qz rfl rfl rfl ?_; refine Qz rfl rfl rfl ?_; refine Qz rfl rfl rfl ?_; refine Qm rfl rfl rfl (by with_reducible exact sRes) (by omega) (rss_at (by omega) (by omega)) rfl ?_; refine Xr (n := 17) rfl rfl rfl (by with_reducible exact lRes) rfl rfl ?_)
    try rw [e2]
    skip
    refine Ops.callF hgo rfl (hf _ (getD_mem (by omega))) rfl rfl rfl rfl ?_
    (refine Qj (hK _ _ (Qx ?_)); clear hK K)
    refine XK rfl (fun h2 => ?_) (fun h2 => ?_)
    · (refine Qy (Qq fun K hK => ?_); refine Qz rfl rfl rfl ?_; refine Qv rfl rfl rfl ?_; refine Qj (hK _ _ (Qx (QU (Q5 (QV (QV (Q5 (QV ?_)))))))); clear hK K)
      refine QW [_] rfl (QQ rfl QX) (by rw [idxI_hit (by omega) h2 hv]; rfl) rfl
    · (refine Q0 (Qx (Qq fun K hK => ?_)); refine Qk (iadd (by omega) (by omega)) rfl rfl rfl rfl ?_; refine Qz rfl rfl rfl ?_; refine Qj (hK _ _ (Q4 ?_)); clear hK K)
      refine Q9 (i + 1) (by omega) ⟨by omega, ?_⟩ (by exact Qu rfl ⟨rfl, rfl, rfl, by simp only [Int.natCast_add]; rfl, trivial⟩)
      intro j hj
      rcases Nat.lt_or_ge j i with h3 | h3
      · exact hv j h3
      · have : j = i := by omega
        rw [this]; exact h2
  · have hi' : i = xs.length := by omega
    (refine Qo (Qx (Qy (Qq fun K hK => ?_))); refine Qv rfl rfl rfl ?_; refine Qj (hK _ _ (Qx (QU ?_))); clear hK K)
    refine QW [_] rfl (QQ rfl QX) (by rw [idxI_miss (fun j hj => hv j (by omega))]; rfl) rfl
theorem goIndexFunc_res : InGo Tryz.prog 113 := InGo.of Tryz.func113 (by kernel_rfl) (by kernel_rfl)
theorem ContainsFunc_res (xs : List Rs) (f : FuncId) (p : Rs → Bool) (hgo : InGo Tryz.prog f) (hf : ∀ x ∈ xs, Ok Tryz.prog f [rsC x] (boolC (p x))) (hl : xs.length < 4611686018427387904) : Ok Tryz.prog 71 [rssC xs, (.ex (.func (.func f) #[] #[]))] (boolC (xs.any p)) := by
  refine Ok.enter Tryz.func71 rfl _ Tryz.ntmps71 rfl ?_
  intro S w
  (refine Qy (Qq fun K hK => ?_); refine Qv rfl rfl rfl ?_; refine Qj (hK _ _ (Qx (Qy ?_))); clear hK K; refine Qq (fun K hK => ?_); refine Qz rfl rfl rfl ?_; refine Qz rfl rfl rfl ?_)
  refine QZ goIndexFunc_res (IndexFunc_res xs f p hgo hf hl) rfl rfl rfl rfl ?_
  (refine Qk igeq rfl rfl rfl rfl ?_; refine Qv rfl rfl rfl ?_; refine Qj (hK _ _ (Qx (QU ?_))); clear hK K)
  refine QW [_] rfl (QQ rfl QX) (by rw [← idxI_any]; rfl) rfl
theorem goContainsFunc_res : InGo Tryz.prog 71 := InGo.of Tryz.func71 (by kernel_rfl) (by kernel_rfl)
theorem gocheck1 : InGo Tryz.prog 85 := InGo.of Tryz.func85 rfl (by decide)
theorem check1_ok (r : Rs) : Ok Tryz.prog 85 [rsC r] (boolC (!okR r)) := by
  refine Ok.enter Tryz.func85 rfl _ Tryz.ntmps85 rfl ?_
  intro S w
  (refine Qy (Qq fun K hK => ?_); refine XQ 0 rfl rfl rfl rfl rfl rfl rfl ?_; refine Qv rfl rfl rfl ?_; refine Qj (hK _ _ (Qx (Qy ?_))); clear hK K; refine Qq (fun K hK => ?_); refine Q8 (n := 17) rfl rfl rfl rfl rfl (by with_reducible exact lRes) rfl ?_)
  refine QZ goValidR (ValidR_ok r) rfl rfl rfl rfl ?_
  (refine Qs rfl rfl rfl ?_; refine Qv rfl rfl rfl ?_; refine Qj (hK _ _ (Qx (QU ?_))); clear hK K)
  refine QW [_] rfl (QQ rfl QX) rfl rfl
set_option maxHeartbeats 4000000 in
theorem Index_wr (xs : List Wr) (q : Wr) (hl : xs.length < 4611686018427387904) : Ok Tryz.prog 109 [wrsC xs, wrC q] (intC (idxI (fun x => decide (q = x)) xs)) := by
  refine Ok.enter Tryz.func109 rfl _ Tryz.ntmps109 rfl ?_
  intro S w
  refine Qy ?_
  refine Qq (fun K hK => ?_)
  refine XQ 0 rfl rfl rfl rfl rfl rfl rfl ?_
  (refine Qv rfl rfl rfl ?_; refine Qj (hK _ _ (Qx (Qy (Qy ?_)))); clear hK K; refine Qq (fun K hK => ?_); refine Qz rfl rfl rfl ?_; refine Qd rfl rfl (by with_reducible first | exact sTks.und | exact sWrs.und | exact sIks.und | exact sAdrs.und) (List.length_map ..) rfl ?_; refine Qz rfl rfl rfl ?_; refine Qj (hK _ _ (Qx (Q2 ?_))); clear hK K)
  refine Xz (α := Nat) (fun i => i ≤ xs.length ∧ ∀ j, j < i → decide (q = xs.getD j wr0) = false)
    (fun i => [(0, .ct (wrsC xs)), (3, .own 0), (7, .ct (intC xs.length)), (8, .ct (intC i))]) (fun _ => [(0, .box 37 (wrCs q))]) (fun i => xs.length - i) 0 ⟨Nat.zero_le _, fun j h => absurd h (Nat.not_lt_zero j)⟩ (by exact Qu rfl ⟨rfl, rfl, rfl, rfl, trivial⟩) ?_
  intro i ⟨hi, hv⟩
  dsimp only
  (refine Qy (Qq fun K hK => ?_); refine Qk ilss rfl rfl rfl rfl ?_; refine Qj (hK _ _ (Qx (Qy ?_))); clear hK K)
  refine Q1 rfl (fun h => ?_) (fun h => ?_)
  · have e2 : (i : Int).toNat = i := Int.toNat_natCast i
    (refine Q0 (Qx (Qy (Q2 (Qy (Qq fun K hK => ?_))))); refine Qz rfl rfl rfl ?_; refine Qv rfl rfl rfl ?_; refine Qj (hK _ _ (Qx (Qy ?_))); clear hK K)
    refine Zf (α := Unit) (fun _ => True) (fun _ => [(0, .ct (wrsC xs)), (3, .own 0), (5, .ct (intC i)), (7, .ct (intC xs.length)), (8, .ct (intC i)), (16, .ct (boolC (decide (q = xs.getD i wr0))))]) (fun _ => [(0, .box 37 (wrCs q))]) (fun _ _ => ?_) (fun KN hM => ?_)
    rotate_left
    · refine XJ (by with_reducible exact mixed) 6 (.p 1 (.p 2 (.p 3 (.f 0 (.f 4 (.p 5 .done)))))) (by kernel_rfl) (fun K hK => ?_)
      (refine Qz rfl rfl rfl ?_; refine Qz rfl rfl rfl ?_)
      refine Qm rfl rfl rfl (by with_reducible exact sWrs) (by omega) (wrs_at (by omega) (by omega)) rfl ?_
      rw [e2]
      (refine Q8 (n := 2) rfl rfl rfl rfl rfl (by with_reducible first | exact lTrav | exact lWire | exact lCs) rfl ?_)
      refine Xr (n := 2) rfl rfl rfl (by with_reducible exact lWire) rfl rfl ?_
      refine eqWr q (xs.getD i wr0) rfl rfl rfl rfl rfl ?_
      (refine Qj (hK _ _ ?_); clear hK K)
      exact Xq hM () trivial (Qu rfl ⟨rfl, rfl, rfl, rfl, rfl, rfl, trivial⟩)
    skip
    refine XK rfl (fun h2 => ?_) (fun h2 => ?_)
    · (refine Qy (Qq fun K hK => ?_); refine Qz rfl rfl rfl ?_; refine Qv rfl rfl rfl ?_; refine Qj (hK _ _ (Qx (QU (Q5 (QV (QV (Q5 (QV ?_)))))))); clear hK K)
      refine QW [_] rfl (QQ rfl QX) (by rw [idxI_hit (p := fun x => decide (q = x)) (by omega) h2 hv]; rfl) rfl
    · (refine Q0 (Qx (Qq fun K hK => ?_)); refine Qk (iadd (by omega) (by omega)) rfl rfl rfl rfl ?_; refine Qz rfl rfl rfl ?_; refine Qj (hK _ _ (Q4 ?_)); clear hK K)
      refine Q9 (i + 1) (by omega) ⟨by omega, ?_⟩ (by exact Qu rfl ⟨rfl, rfl, rfl, by simp only [Int.natCast_add]; rfl, trivial⟩)
      intro j hj
      rcases Nat.lt_or_ge j i with h3 | h3
      · exact hv j h3
      · have : j = i := by omega
        rw [this]; exact h2
  · have hi' : i = xs.length := by omega
    (refine Qo (Qx (Qy (Qq fun K hK => ?_))); refine Qv rfl rfl rfl ?_; refine Qj (hK _ _ (Qx (QU ?_))); clear hK K)
    refine QW [_] rfl (QQ rfl QX) (by rw [idxI_miss (p := fun x => decide (q = x)) (z := wr0) (fun j hj => hv j (by omega))]; rfl) rfl
theorem goIndex_wr : InGo Tryz.prog 109 := InGo.of Tryz.func109 (by kernel_rfl) (by kernel_rfl)
theorem Contains_wr (xs : List Wr) (q : Wr) (hl : xs.length < 4611686018427387904) : Ok Tryz.prog 63 [wrsC xs, wrC q] (boolC (decide (q ∈ xs))) := by
  have e : decide (q ∈ xs) = decide (0 ≤ idxI (fun x => decide (q = x)) xs) := by
    rw [idxI_any, Bool.eq_iff_iff, decide_eq_true_eq, List.any_eq_true]
    exact ⟨fun h => ⟨q, h, decide_eq_true rfl⟩, fun ⟨x, h1, h2⟩ => (of_decide_eq_true h2) ▸ h1⟩
  rw [e]
  refine Ok.enter Tryz.func63 rfl _ Tryz.ntmps63 rfl ?_
  intro S w
  refine Qy ?_
  refine Qq (fun K hK => ?_)
  refine XQ 0 rfl rfl rfl rfl rfl rfl rfl ?_
  (refine Qv rfl rfl rfl ?_; refine Qj (hK _ _ (Qx (Qy ?_))); clear hK K; refine Qq (fun K hK => ?_); refine Qz rfl rfl rfl ?_; refine Q8 (n := 2) rfl rfl rfl rfl rfl (by with_reducible first | exact lTrav | exact lWire | exact lCs) rfl ?_)
  refine QZ goIndex_wr (Index_wr xs q hl) rfl rfl rfl rfl ?_
  (refine Qk igeq rfl rfl rfl rfl ?_; refine Qv rfl rfl rfl ?_; refine Qj (hK _ _ (Qx (QU ?_))); clear hK K)
  refine QW [_] rfl (QQ rfl QX) rfl rfl
theorem goContains_wr : InGo Tryz.prog 63 := InGo.of Tryz.func63 (by kernel_rfl) (by kernel_rfl)
theorem gocheck : InGo Tryz.prog 43 := InGo.of Tryz.func43 rfl (by decide)
theorem check_ok (l : List Rs) (hl : l.length ≤ 10000) : Ok Tryz.prog 43 [rssC l] (intC (chkF l)) := by
  have hC := ContainsFunc_res l _ (fun r => !okR r) gocheck1 (fun x _ => check1_ok x) (by omega)
  have hO := Order_ok l hl
  have hN := Consistent_ok l hl
  have e : chkF l = if (l.any fun r => !okR r) = true then 1 else if 512 < ((sd cmpR (l.filter okR)).length : Int) then 5 else if consB l = true then 0 else 30 := rfl
  have hol : (sd cmpR (l.filter okR)).length ≤ 10000 := by
    have := sd_len cmpR (l.filter okR)
    have := List.length_filter_le okR l
    omega
  generalize chkF l = c at e ⊢
  generalize (l.any fun r => !okR r) = b1 at hC e
  generalize sd cmpR (l.filter okR) = o at hO e hol
  generalize consB l = b3 at hN e
  refine Ok.enter Tryz.func43 rfl _ Tryz.ntmps43 rfl ?_
  intro S w
  (refine Qy (Qq fun K hK => ?_); refine Qv rfl rfl rfl ?_; refine Qj (hK _ _ (Qx (Qy (Q2 (Qy ?_))))); clear hK K; refine Qq (fun K hK => ?_); refine Qz rfl rfl rfl ?_)
  refine QZ goContainsFunc_res hC rfl rfl rfl rfl ?_
  (refine Qv rfl rfl rfl ?_; refine Qj (hK _ _ (Qx ?_)); clear hK K)
  refine XK rfl (fun h => ?_) (fun h => ?_)
  · rw [if_pos h] at e
    (refine Qy (Qq fun K hK => ?_); refine Qv rfl rfl rfl ?_; refine Qj (hK _ _ (Qx (QU (Q5 (QV ?_))))); clear hK K)
    refine QW [_] rfl (QQ rfl QX) (by rw [e]; rfl) rfl
  rw [if_neg (by rw [h]; decide)] at e
  (refine Qy (Qq fun K hK => ?_); refine Qz rfl rfl rfl ?_)
  refine Z9 3 goOrder hO rfl rfl rfl rfl rfl rfl ?_
  refine Xs 3 _ rfl (Za _ _) XW ?_
  (refine Qd rfl rfl (by with_reducible exact sRes.und) (List.length_map ..) rfl ?_; refine Qk igtr rfl rfl rfl rfl ?_; refine Qv rfl rfl rfl ?_; refine Qj (hK _ _ (Qx ?_)); clear hK K)
  refine Q1 rfl (fun h2 => ?_) (fun h2 => ?_)
  · rw [if_pos h2] at e
    (refine Qy (Qq fun K hK => ?_); refine Qv rfl rfl rfl ?_; refine Qj (hK _ _ (Qx (QU (Q5 (QV ?_))))); clear hK K)
    refine QW [_] rfl (QQ rfl QX) (by rw [e]; rfl) rfl
  rw [if_neg h2] at e
  (refine Qy (Qq fun K hK => ?_); refine Qz rfl rfl rfl ?_)
  refine QZ goConsistent hN rfl rfl rfl rfl ?_
  (refine Qs rfl rfl rfl ?_; refine Qv rfl rfl rfl ?_; refine Qj (hK _ _ (Qx ?_)); clear hK K)
  refine XK rfl (fun h3 => ?_) (fun h3 => ?_)
  · rw [if_neg (by simpa using h3)] at e
    (refine Qy (Qq fun K hK => ?_); refine Qv rfl rfl rfl ?_; refine Qj (hK _ _ (Qx (QU (Q5 (QV ?_))))); clear hK K)
    refine QW [_] rfl (QQ rfl QX) (by rw [e]; rfl) rfl
  rw [if_pos (by simpa using h3)] at e
  (refine Q0 (Qx (Qy (Qq fun K hK => ?_))); refine Qv rfl rfl rfl ?_; refine Qj (hK _ _ (Qx (QU ?_))); clear hK K)
  refine QW [_] rfl (QQ rfl QX) (by rw [e]; rfl) rfl
end Go.Proofs.YtlkdkbdgnjcopaaGreat
namespace Go.Proofs.YtlkdkbdgnjcopaaGreat
open Go.Own Go.Limbs
attribute [local irreducible] St Ops Go.Own.Fin Ok OkB OkN OkT OkL OkF
abbrev cnCs (c : Cn) : List CT := [adrF c.wr.1, adrF c.wr.2, intC c.se, intC c.lo, intC c.hi]
abbrev cnC (c : Cn) : CT := .fr (aggT (cnCs c))
abbrev csCs (c : Int × Int) : List CT := [intC c.1, intC c.2]
abbrev csC (c : Int × Int) : CT := .fr (aggT (csCs c))
theorem lCn : LdN Tryz.prog 39 5 := LdN.of _ Tryz.underlying39 rfl (by kernel_rfl)
theorem szCn : (Tryz.prog.info? 39).map (·.size) = some 5 := by kernel_rfl
theorem zvCn : (Tryz.prog.info? 39).map (·.zero) = some (some (.agg #[.int .u32 0, .int .u32 0, .int .i64 0, .int .i64 0, .int .i64 0])) := by kernel_rfl
theorem bCn : bInfo Tryz.prog 39 = some (.agg #[.int .u32 0, .int .u32 0, .int .i64 0, .int .i64 0, .int .i64 0], [(0, some 2), (2, some 1), (3, some 1), (4, some 1)]) := by kernel_rfl
theorem fCn1 : fldInfo Tryz.prog 39 1 = some (2, some 1) := by kernel_rfl
theorem fCn2 : fldInfo Tryz.prog 39 2 = some (3, some 1) := by kernel_rfl
theorem fCn3 : fldInfo Tryz.prog 39 3 = some (4, some 1) := by kernel_rfl
theorem bCs : bInfo Tryz.prog 81 = some (.agg #[.int .i64 0, .int .i64 0], [(0, some 1), (1, some 1)]) := by kernel_rfl
theorem fCs0 : fldInfo Tryz.prog 81 0 = some (0, some 1) := by kernel_rfl
theorem fCs1 : fldInfo Tryz.prog 81 1 = some (1, some 1) := by kernel_rfl
end Go.Proofs.YtlkdkbdgnjcopaaGreat
namespace Go.Own
section
variable {X : Ctx} {L : AL} {B : BL} {ops : Array Oper} {K : Act → World → Prop} {r : Pl} {k : Kd}
  {x y z : Operand} {d : Nat} {t t2 t' : TypeId} {pos : String} {af : Array Edge} {g : Option (Nat × Bool)}
theorem Ops.callNew {f : FuncId} {args : List Operand} {tys : Array TypeId} {As : List Sl} {α : Type} {J : α → Prop} {R : α → CT} {e : α → Ent} (a : Nat) (hgo : InGo X.P f) (hok : OkM X.P f As [] [] J (fun q => .ct (R q)) (fun q => [(a, e q)])) (hg : gd ops L g = some true) (hargs : evS L args = some As) (hn : Nat.blt d X.n = true)
    (hbor : ∀ gb, X.bor gb → X.S0 gb) (hi : bget B a = none) (hfix : (X.fix.all fun p => (bget B p.1).isSome) = true) (hL : noN a L = true)
    (h : ∀ q, J q → Ops X ops r ((d, .ct (R q)) :: L) ((a, e q) :: B) K) : Ops X ops (.cons ⟨some d, .call { callee := .value (.func f), args := args.toArray, argTypes := tys }, t, pos, af, g⟩ .any r) L B K := by
  refine Ops.callM B (fun j => !Nat.beq j a) hgo hok hg hargs hn hbor (fun j => rfl) (fun j hj => ?_) (fun j hj => ?_) (fun p hp => .inl (List.all_eq_true.1 hfix p hp)) (fun q j hq => ?_) (fun q hq => ?_)
  · have h0 : a ≠ j := fun e => by subst e; rw [hi] at hj; cases hj
    exact ⟨rfl, fun q => by rw [Qe _ _ h0]; rfl⟩
  · have h9 : a ≠ j := fun e => by subst e; rw [Nat.beq_refl] at hj; cases hj
    exact .inr fun q => by rw [Qe _ _ h9]; rfl
  · rcases hq with hq | ⟨_, hq⟩ <;> cases hq
  · rw [keepL_id hL]
    exact h q hq
theorem Entails.front {L' : AL} {B' : BL} (a : Nat) (e : Ent) (hb : bget B a = some e) (h : Entails X L ((a, e) :: bdel B a) L' B') : Entails X L B L' B' := fun x ρ w hI => h x ρ w (hI.bext fun j => by
  by_cases hj : a = j
  · subst hj; rw [Qr, hb]
  · rw [Qe _ _ hj, Xe _ (Ne.symm hj)])
end
end Go.Own
namespace Go.Proofs.YtlkdkbdgnjcopaaGreat
open Go.Own Go.Limbs
attribute [local irreducible] St Ops Go.Own.Fin Ok OkB OkN OkT OkL OkF OkM
theorem wiresG_len : ∀ (l : List (Fin 4294967296)) (p : Fin 4294967296) (b : Bool), (wiresG p l b).length ≤ l.length
  | [], _, _ => Nat.le_refl _
  | a :: l, p, b => by
    have := wiresG_len l a false
    unfold wiresG
    rw [List.length_append, List.length_cons]
    split <;> simp <;> omega
theorem wayF_len (l : List Rs) (r : Rs) : (wayF l r).length ≤ 256 := by
  have h := pathF_len (ofF l (trOf r)) r.fl
  rw [wayF_eq]
  split
  · simp
  · split
    · have := wiresG_len ((pathF (ofF l (trOf r)) r.fl).take r.tt.toNat) 0 true
      rw [List.length_take] at this
      omega
    · split
      · simp
      · have := wiresG_len (pathF (ofF l (trOf r)) r.fl) 0 true
        omega
def crO (l : List Rs) (w : Wr) : List Ik × List Ik × Int :=
  if ¬ chkF l = 0 then ([], [], chkF l) else if (crsF l w true).length + (crsF l w false).length = 0 then ([], [], 8) else ((crsF l w true).map idOf, (crsF l w false).map idOf, 0)
theorem goCrosses : InGo Tryz.prog 27 := InGo.of Tryz.func27 rfl (by decide)
set_option maxHeartbeats 16000000 in
theorem Crosses_ok (l : List Rs) (hl : l.length ≤ 10000) (w : Wr) : Ok Tryz.prog 27 [rssC l, wrC w] (.fr (tupT [iksC (crO l w).1, iksC (crO l w).2.1, intC (crO l w).2.2])) := by
  have hC := check_ok l hl
  have hT := Travel_ok l hl
  have hO := Order_ok l hl
  have hW := fun v hv r al hal => Way_ok l hl v hv r al hal
  have hwl := wayF_len l
  have e : crO l w = if ¬ chkF l = 0 then ([], [], chkF l) else if ((sd cmpR (l.filter okR)).filter fun r => decide (w ∈ wayF l r) && (r.an == true)).length + ((sd cmpR (l.filter okR)).filter fun r => decide (w ∈ wayF l r) && (r.an == false)).length = 0 then ([], [], 8)
    else (((sd cmpR (l.filter okR)).filter fun r => decide (w ∈ wayF l r) && (r.an == true)).map idOf, ((sd cmpR (l.filter okR)).filter fun r => decide (w ∈ wayF l r) && (r.an == false)).map idOf, 0) := rfl
  have hol : (sd cmpR (l.filter okR)).length ≤ 10000 := by
    have := sd_len cmpR (l.filter okR)
    have := List.length_filter_le okR l
    omega
  generalize chkF l = c at hC e
  generalize wayF l = wy at hW e hwl
  generalize sd cmpR (l.filter okR) = o at hO e hol
  generalize crO l w = out at e ⊢
  generalize owF l = om at hT hW
  refine Ok.enter Tryz.func27 rfl _ Tryz.ntmps27 rfl ?_
  intro S w0
  refine Qy ?_
  refine Qq (fun K hK => ?_)
  refine XQ 0 rfl rfl rfl rfl rfl rfl rfl ?_
  (refine Qv rfl rfl rfl ?_; refine Qv rfl rfl rfl ?_; refine Qv rfl rfl rfl ?_; refine Qj (hK _ _ (Qx (Qy (Qy ?_)))); clear hK K; refine Qq (fun K hK => ?_); refine Qz rfl rfl rfl ?_)
  refine QZ gocheck hC rfl rfl rfl rfl ?_
  (refine Qv rfl rfl rfl ?_; refine Qj (hK _ _ (Qx (Qy ?_))); clear hK K; refine Qq (fun K hK => ?_); refine Qz rfl rfl rfl ?_; refine Qk ineq rfl rfl rfl rfl ?_; refine Qj (hK _ _ (Qx ?_)); clear hK K)
  refine Q1 rfl (fun h => ?_) (fun h => ?_)
  · rw [if_pos h] at e
    (refine Qy (Qq fun K hK => ?_); refine Qz rfl rfl rfl ?_; refine Qv rfl rfl rfl ?_; refine Qv rfl rfl rfl ?_; refine Qv rfl rfl rfl ?_; refine Qj (hK _ _ (Qx (QU (QV ?_)))); clear hK K)
    refine QW [_, _, _] rfl (XY ZV (QQ rfl (XY ZV (QQ rfl (QQ rfl QX))))) (by rw [e]; rfl) rfl
  rw [if_neg h] at e
  (refine Q0 (Qx (Qy (Qq fun K hK => ?_))); refine Qz rfl rfl rfl ?_)
  refine Ops.callNew 8 gotravel hT rfl rfl rfl (fun _ h => h.elim) rfl rfl rfl (fun v hv => ?_)
  refine Qi 1 rfl rfl (by with_reducible exact zvTrav) rfl rfl rfl ?_
  refine Qb 2 rfl rfl rfl rfl (by show (true && (Value.oneCell' v && true)) = true; rw [hv]; rfl) (by with_reducible exact szTrav) rfl rfl ?_
  (refine Qj (hK _ _ (Qx (Qy ?_))); clear hK K; refine Qq (fun K hK => ?_); refine Qv rfl rfl rfl ?_; refine Qv rfl rfl rfl ?_; refine Qj (hK _ _ (Qx (Qy (Qy ?_)))); clear hK K; refine Qq (fun K hK => ?_); refine Qz rfl rfl rfl ?_)
  refine Z9 3 goOrder hO rfl rfl rfl rfl rfl rfl ?_
  refine Xs 3 _ rfl (Za _ _) XW ?_
  (refine Qd rfl rfl (by with_reducible exact sRes.und) (List.length_map ..) rfl ?_; refine Qz rfl rfl rfl ?_; refine Qj (hK _ _ (Qx (Q2 ?_))); clear hK K)
  refine Xg 9 2 124 3 rfl rfl rfl ?_
  refine Xg 10 4 124 3 rfl rfl rfl ?_
  refine Xz (α := Nat × KnM) (fun q => q.1 ≤ o.length ∧ knOk l q.2)
    (fun q => [(3, .own 0), (8, .own 1), (9, .own 2), (10, .own 4), (21, .ct (rssC o)), (22, .ct (intC o.length)), (23, .ct (intC q.1))])
    (fun q => [(8, .mpx v (knM q.2)), (4, .row 124 3 (iks (((o.take q.1).filter fun r => decide (w ∈ wy r) && (r.an == false)).map idOf))), (2, .row 124 3 (iks (((o.take q.1).filter fun r => decide (w ∈ wy r) && (r.an == true)).map idOf))), (1, .box 94 [.fr (mapT (owM om)), .ex v]), (0, .box 37 (wrCs w))])
    (fun q => o.length - q.1) (0, []) ⟨Nat.zero_le _, fun _ _ h => by cases h⟩ (Entails.front 8 _ rfl <| by exact Qu rfl ⟨rfl, rfl, rfl, rfl, rfl, rfl, rfl, trivial⟩) ?_
  intro ⟨i, m⟩ ⟨hi, hm⟩
  try dsimp only at hi hm ⊢
  (refine Qy (Qq fun K hK => ?_); refine Qk ilss rfl rfl rfl rfl ?_; refine Qj (hK _ _ (Qx (Qy ?_))); clear hK K)
  refine Q1 rfl (fun h => ?_) (fun h => ?_)
  · have e2 : (i : Int).toNat = i := Int.toNat_natCast i
    have hs1 := filter_take (fun r => decide (w ∈ wy r) && (r.an == true)) (z := rs0) (i := i) (l := o) (by omega)
    have hs2 := filter_take (fun r => decide (w ∈ wy r) && (r.an == false)) (z := rs0) (i := i) (l := o) (by omega)
    have hf1 := filter_len (fun r => decide (w ∈ wy r) && (r.an == true)) o i
    have hf2 := filter_len (fun r => decide (w ∈ wy r) && (r.an == false)) o i
    (refine Q0 (Qx (Qy (Q2 (Qy (Qq fun K hK => ?_))))); refine Qm rfl rfl rfl (by with_reducible exact sRes) (by omega) (rss_at (by omega) (by omega)) rfl ?_; refine Xr (n := 17) rfl rfl rfl (by with_reducible exact lRes) rfl rfl ?_)
    rw [e2]
    generalize o.getD i rs0 = x at hs1 hs2
    generalize (o.take i).filter (fun r => decide (w ∈ wy r) && (r.an == true)) = s1 at hs1 hf1 ⊢
    generalize (o.take i).filter (fun r => decide (w ∈ wy r) && (r.an == false)) = s2 at hs2 hf2 ⊢
    refine Qi 6 rfl rfl (by with_reducible exact zvRes) rfl rfl rfl ?_
    refine Qb 17 rfl rfl rfl rfl rfl (by with_reducible exact szRes) rfl rfl ?_
    (refine Qj (hK _ _ (Qx (Qy (Qy ?_)))); clear hK K)
    refine St.drawQ (by with_reducible exact mixed) [2] (.f 0 (.f 1 (.a 2 (.f 3 (.m 4 (.p 5 .done) .non)) (.m 3 (.a 2 (.m 4 (.p 5 .done) .non) .non) .non)))) (by kernel_rfl) (fun K hK => ?_)
    refine X9 ?_
    refine Q8 (n := 2) rfl rfl rfl rfl rfl (by with_reducible exact lTrav) rfl ?_
    refine Qj ?_
    refine X9 ?_
    refine Q8 (n := 17) rfl rfl rfl rfl rfl (by with_reducible exact lRes) rfl ?_
    refine Qj ?_
    refine Xw ?_ ?_
    · refine Ops.call1 (As := [travC om v, rsC x]) 8 goway (hW v hv x m hm) rfl rfl rfl (fun _ h => h.elim) rfl (fun p hp => absurd hp (by simp)) (fun q j hq => by rcases hq with hq | ⟨_, hq⟩ <;> cases hq) (fun m' hm' => ?_)
      refine Qj ?_
      refine X9 ?_
      refine Q8 (n := 2) rfl rfl rfl rfl rfl (by with_reducible exact lWire) rfl ?_
      refine Qj ?_
      refine Xm ?_ Ql
      refine QZ goContains_wr (Contains_wr (wy x) w (by have := hwl x; omega)) rfl rfl rfl rfl ?_
      refine Qj ?_
      refine ZY ?_
      refine Qs rfl rfl rfl ?_
      refine Qj ?_
      refine Xu (hK _ _ ?_)
      (refine Qx ?_)
      refine XK rfl (fun h2 => ?_) (fun h2 => ?_)
      · rw [if_neg (by simp at h2; simp [h2])] at hs1 hs2
        (refine Qo (Qx (Qq fun K hK => ?_)); refine Qk (iadd (by omega) (by omega)) rfl rfl rfl rfl ?_; refine Qz rfl rfl rfl ?_; refine Qj (hK _ _ (Q4 ?_)); clear hK K)
        refine Xj 6 ?_
        refine Q9 (i + 1, m') (by dsimp only; omega) ⟨by dsimp only; omega, hm'⟩ (by dsimp only; rw [hs1, hs2]; exact Qu rfl ⟨rfl, rfl, rfl, rfl, rfl, rfl, by simp only [Int.natCast_add]; rfl, trivial⟩)
      have h2 : decide (w ∈ wy x) = true := by simpa using h2
      (refine Q0 (Qx (Qy (Qq fun K hK => ?_))); refine QY rfl rfl rfl (by with_reducible first | exact fS0 | exact fS1 | exact fS2 | exact fS3 | exact fS4 | exact fS5 | exact fS6 | exact fS7 | exact fS8 | exact fS9 | exact fS10 | exact fS11 | exact fN0 | exact fN1 | exact fN2 | exact fN3 | exact fN4 | exact fN5) rfl ?_; refine QJ rfl rfl rfl rfl rfl (by with_reducible first | exact lInt | exact Qh | exact Qf | exact lRess) rfl ?_; refine Qj (hK _ _ (Qx ?_)); clear hK K)
      refine XK rfl (fun h3 => ?_) (fun h3 => ?_)
      · rw [if_pos (by simp [h2, h3])] at hs1
        rw [if_neg (by simp [h3])] at hs2
        (refine Qq (fun K hK => ?_); refine Qz rfl rfl rfl ?_; refine Q8 (n := 17) rfl rfl rfl rfl rfl (by with_reducible exact lRes) rfl ?_)
        refine QZ Z1 (Ze x) rfl rfl rfl rfl ?_
        refine ZX (n := 3) rfl rfl (by with_reducible exact sIks) rfl rfl (by decide) rfl ?_
        refine Xk (s1.map idOf).length (iks (s1.map idOf ++ [idOf x])) rfl rfl rfl rfl (by with_reducible exact sIks) (iks_len _) rfl (by rw [List.length_map]; omega) (by rw [List.length_map]; omega) (iks_snoc _ _) rfl ?_
        (refine Qv rfl rfl rfl ?_; refine Qj (hK _ _ (Qx ?_)); clear hK K; refine Qq (fun K hK => ?_); refine Qk (iadd (by omega) (by omega)) rfl rfl rfl rfl ?_; refine Qz rfl rfl rfl ?_; refine Qj (hK _ _ (Q4 ?_)); clear hK K)
        refine Xj 6 ?_
        refine Q9 (i + 1, m') (by dsimp only; omega) ⟨by dsimp only; omega, hm'⟩ (by dsimp only; rw [hs1, hs2, List.map_append]; exact Qu rfl ⟨rfl, rfl, rfl, rfl, rfl, rfl, by simp only [Int.natCast_add]; rfl, trivial⟩)
      · rw [if_neg (by simp [h3])] at hs1
        rw [if_pos (by simp [h2, h3])] at hs2
        (refine Qq (fun K hK => ?_); refine Qz rfl rfl rfl ?_; refine Q8 (n := 17) rfl rfl rfl rfl rfl (by with_reducible exact lRes) rfl ?_)
        refine QZ Z1 (Ze x) rfl rfl rfl rfl ?_
        refine ZX (n := 3) rfl rfl (by with_reducible exact sIks) rfl rfl (by decide) rfl ?_
        refine Xk (s2.map idOf).length (iks (s2.map idOf ++ [idOf x])) rfl rfl rfl rfl (by with_reducible exact sIks) (iks_len _) rfl (by rw [List.length_map]; omega) (by rw [List.length_map]; omega) (iks_snoc _ _) rfl ?_
        (refine Qv rfl rfl rfl ?_; refine Qj (hK _ _ (Qx ?_)); clear hK K; refine Qq (fun K hK => ?_); refine Qk (iadd (by omega) (by omega)) rfl rfl rfl rfl ?_; refine Qz rfl rfl rfl ?_; refine Qj (hK _ _ (Q4 ?_)); clear hK K)
        refine Xj 6 ?_
        refine Q9 (i + 1, m') (by dsimp only; omega) ⟨by dsimp only; omega, hm'⟩ (by dsimp only; rw [hs1, hs2, List.map_append]; exact Qu rfl ⟨rfl, rfl, rfl, rfl, rfl, rfl, by simp only [Int.natCast_add]; rfl, trivial⟩)
    refine Xm ?_ Ql
    refine Q8 (n := 2) rfl rfl rfl rfl rfl (by with_reducible exact lWire) rfl ?_
    refine Qj ?_
    refine Xw ?_ Ql
    refine Ops.call1 (As := [travC om v, rsC x]) 8 goway (hW v hv x m hm) rfl rfl rfl (fun _ h => h.elim) rfl (fun p hp => absurd hp (by simp)) (fun q j hq => by rcases hq with hq | ⟨_, hq⟩ <;> cases hq) (fun m' hm' => ?_)
    refine Qj ?_
    refine Xm ?_ Ql
    refine QZ goContains_wr (Contains_wr (wy x) w (by have := hwl x; omega)) rfl rfl rfl rfl ?_
    refine Qj ?_
    refine ZY ?_
    refine Qs rfl rfl rfl ?_
    refine Qj ?_
    refine Xu (hK _ _ ?_)
    (refine Qx ?_)
    refine XK rfl (fun h2 => ?_) (fun h2 => ?_)
    · rw [if_neg (by simp at h2; simp [h2])] at hs1 hs2
      (refine Qo (Qx (Qq fun K hK => ?_)); refine Qk (iadd (by omega) (by omega)) rfl rfl rfl rfl ?_; refine Qz rfl rfl rfl ?_; refine Qj (hK _ _ (Q4 ?_)); clear hK K)
      refine Xj 6 ?_
      refine Q9 (i + 1, m') (by dsimp only; omega) ⟨by dsimp only; omega, hm'⟩ (by dsimp only; rw [hs1, hs2]; exact Qu rfl ⟨rfl, rfl, rfl, rfl, rfl, rfl, by simp only [Int.natCast_add]; rfl, trivial⟩)
    have h2 : decide (w ∈ wy x) = true := by simpa using h2
    (refine Q0 (Qx (Qy (Qq fun K hK => ?_))); refine QY rfl rfl rfl (by with_reducible first | exact fS0 | exact fS1 | exact fS2 | exact fS3 | exact fS4 | exact fS5 | exact fS6 | exact fS7 | exact fS8 | exact fS9 | exact fS10 | exact fS11 | exact fN0 | exact fN1 | exact fN2 | exact fN3 | exact fN4 | exact fN5) rfl ?_; refine QJ rfl rfl rfl rfl rfl (by with_reducible first | exact lInt | exact Qh | exact Qf | exact lRess) rfl ?_; refine Qj (hK _ _ (Qx ?_)); clear hK K)
    refine XK rfl (fun h3 => ?_) (fun h3 => ?_)
    · rw [if_pos (by simp [h2, h3])] at hs1
      rw [if_neg (by simp [h3])] at hs2
      (refine Qq (fun K hK => ?_); refine Qz rfl rfl rfl ?_; refine Q8 (n := 17) rfl rfl rfl rfl rfl (by with_reducible exact lRes) rfl ?_)
      refine QZ Z1 (Ze x) rfl rfl rfl rfl ?_
      refine ZX (n := 3) rfl rfl (by with_reducible exact sIks) rfl rfl (by decide) rfl ?_
      refine Xk (s1.map idOf).length (iks (s1.map idOf ++ [idOf x])) rfl rfl rfl rfl (by with_reducible exact sIks) (iks_len _) rfl (by rw [List.length_map]; omega) (by rw [List.length_map]; omega) (iks_snoc _ _) rfl ?_
      (refine Qv rfl rfl rfl ?_; refine Qj (hK _ _ (Qx ?_)); clear hK K; refine Qq (fun K hK => ?_); refine Qk (iadd (by omega) (by omega)) rfl rfl rfl rfl ?_; refine Qz rfl rfl rfl ?_; refine Qj (hK _ _ (Q4 ?_)); clear hK K)
      refine Xj 6 ?_
      refine Q9 (i + 1, m') (by dsimp only; omega) ⟨by dsimp only; omega, hm'⟩ (by dsimp only; rw [hs1, hs2, List.map_append]; exact Qu rfl ⟨rfl, rfl, rfl, rfl, rfl, rfl, by simp only [Int.natCast_add]; rfl, trivial⟩)
    · rw [if_neg (by simp [h3])] at hs1
      rw [if_pos (by simp [h2, h3])] at hs2
      (refine Qq (fun K hK => ?_); refine Qz rfl rfl rfl ?_; refine Q8 (n := 17) rfl rfl rfl rfl rfl (by with_reducible exact lRes) rfl ?_)
      refine QZ Z1 (Ze x) rfl rfl rfl rfl ?_
      refine ZX (n := 3) rfl rfl (by with_reducible exact sIks) rfl rfl (by decide) rfl ?_
      refine Xk (s2.map idOf).length (iks (s2.map idOf ++ [idOf x])) rfl rfl rfl rfl (by with_reducible exact sIks) (iks_len _) rfl (by rw [List.length_map]; omega) (by rw [List.length_map]; omega) (iks_snoc _ _) rfl ?_
      (refine Qv rfl rfl rfl ?_; refine Qj (hK _ _ (Qx ?_)); clear hK K; refine Qq (fun K hK => ?_); refine Qk (iadd (by omega) (by omega)) rfl rfl rfl rfl ?_; refine Qz rfl rfl rfl ?_; refine Qj (hK _ _ (Q4 ?_)); clear hK K)
      refine Xj 6 ?_
      refine Q9 (i + 1, m') (by dsimp only; omega) ⟨by dsimp only; omega, hm'⟩ (by dsimp only; rw [hs1, hs2, List.map_append]; exact Qu rfl ⟨rfl, rfl, rfl, rfl, rfl, rfl, by simp only [Int.natCast_add]; rfl, trivial⟩)
  · have hi' : i = o.length := by omega
    rw [hi', List.take_length]
    have hf1 := List.length_filter_le (fun r => decide (w ∈ wy r) && (r.an == true)) o
    have hf2 := List.length_filter_le (fun r => decide (w ∈ wy r) && (r.an == false)) o
    generalize o.filter (fun r => decide (w ∈ wy r) && (r.an == true)) = s1 at e hf1 ⊢
    generalize o.filter (fun r => decide (w ∈ wy r) && (r.an == false)) = s2 at e hf2 ⊢
    (refine Qo (Qx (Qy (Qy (Qq fun K hK => ?_)))); refine Qz rfl rfl rfl ?_)
    refine Ops.lenR _ rfl rfl rfl (by decide) (iks_len _) (by with_reducible exact sIks.und) rfl ?_
    (refine Qz rfl rfl rfl ?_)
    refine Ops.lenR _ rfl rfl rfl (by decide) (iks_len _) (by with_reducible exact sIks.und) rfl ?_
    rw [List.length_map, List.length_map]
    (refine Qk (iadd (by omega) (by omega)) rfl rfl rfl rfl ?_; refine Qk ieql rfl rfl rfl rfl ?_; refine Qj (hK _ _ (Qx ?_)); clear hK K)
    refine Q1 rfl (fun h2 => ?_) (fun h2 => ?_)
    · rw [if_pos (by omega)] at e
      (refine Qy (Qq fun K hK => ?_); refine Qv rfl rfl rfl ?_; refine Qv rfl rfl rfl ?_; refine Qv rfl rfl rfl ?_; refine Qj (hK _ _ (Qx (QU (QV ?_)))); clear hK K)
      refine QW [_, _, _] rfl (XY ZV (QQ rfl (XY ZV (QQ rfl (QQ rfl QX))))) (by rw [e]; rfl) rfl
    · rw [if_neg (by omega)] at e
      (refine Q0 (Qx (Qy (Qq fun K hK => ?_))); refine Qz rfl rfl rfl ?_; refine Qz rfl rfl rfl ?_; refine Qv rfl rfl rfl ?_; refine Qv rfl rfl rfl ?_; refine Qv rfl rfl rfl ?_; refine Qj (hK _ _ (Qx (QU ?_))); clear hK K)
      refine Fin.freeze 2 _ rfl (iks_frozen _ _) XW ?_
      refine Fin.freeze 4 _ rfl (iks_frozen _ _) XW ?_
      refine QW [_, _, _] rfl (QQ rfl (QQ rfl (QQ rfl QX))) (by rw [e]; rfl) rfl
theorem gocounted : InGo Tryz.prog 38 := InGo.of Tryz.func38 rfl (by decide)
theorem counted_ok (w : Wr) (a b n : Int) (ha : 0 ≤ a ∧ a ≤ 100000) (hb : 0 ≤ b ∧ b ≤ 100000) (hn : 0 ≤ n ∧ n ≤ 1048576) : Ok Tryz.prog 38 [wrC w, csC (a, b), intC n] (cnC ⟨w, a, max 0 (b - n), b⟩) := by
  refine Ok.enter Tryz.func38 rfl _ Tryz.ntmps38 rfl ?_
  intro S w0
  refine Qy ?_
  refine Qq (fun K hK => ?_)
  refine XQ 0 rfl rfl rfl rfl rfl rfl rfl ?_
  refine XQ 1 rfl rfl rfl rfl rfl rfl rfl ?_
  refine Qi 2 rfl rfl (by with_reducible exact zvCn) rfl rfl rfl ?_
  (refine Qj (hK _ _ (Qx (Qy ?_))); clear hK K; refine Qq (fun K hK => ?_); refine Q8 (n := 2) rfl rfl rfl rfl rfl (by with_reducible first | exact lTrav | exact lWire | exact lCs) rfl ?_; refine QY rfl rfl rfl (by with_reducible first | exact fTk0 | exact fTk1 | exact fTk2 | exact fWr0 | exact fWr1 | exact X6 | exact X7 | exact Xt | exact fStm1 | exact fCn0 | exact fCn1 | exact fCn2 | exact fCn3 | exact fCs0 | exact fCs1) rfl ?_; refine QJ rfl rfl rfl rfl rfl (by with_reducible first | exact lInt | exact Qh | exact Qf | exact lRess) rfl ?_; refine QY rfl rfl rfl (by with_reducible first | exact fTk0 | exact fTk1 | exact fTk2 | exact fWr0 | exact fWr1 | exact X6 | exact X7 | exact Xt | exact fStm1 | exact fCn0 | exact fCn1 | exact fCn2 | exact fCn3 | exact fCs0 | exact fCs1) rfl ?_; refine QJ rfl rfl rfl rfl rfl (by with_reducible first | exact lInt | exact Qh | exact Qf | exact lRess) rfl ?_; refine Qz rfl rfl rfl ?_; refine Qk (isub (by omega) (by omega)) rfl rfl rfl rfl ?_; refine Ops.max2 rfl rfl rfl rfl ?_; refine QY rfl rfl rfl (by with_reducible first | exact fTk0 | exact fTk1 | exact fTk2 | exact fWr0 | exact fWr1 | exact X6 | exact X7 | exact Xt | exact fStm1 | exact fCn0 | exact fCn1 | exact fCn2 | exact fCn3 | exact fCs0 | exact fCs1) rfl ?_; refine QJ rfl rfl rfl rfl rfl (by with_reducible first | exact lInt | exact Qh | exact Qf | exact lRess) rfl ?_)
  refine Qn rfl (by with_reducible exact bCn) rfl (.agg rfl rfl rfl rfl (.one rfl rfl rfl rfl (.one rfl rfl rfl rfl (.one rfl rfl rfl rfl .nil)))) rfl ?_
  (refine Qb 5 rfl rfl rfl rfl rfl (by with_reducible exact szCn) rfl rfl ?_; refine Qj (hK _ _ (Qx (QU ?_))); clear hK K)
  refine QW [_] rfl (Qg (n := 5) rfl rfl (by with_reducible exact lCn) rfl QX) rfl rfl
theorem goCount : InGo Tryz.prog 12 := InGo.of Tryz.func12 rfl (by decide)
set_option maxHeartbeats 4000000 in
theorem Count_ok (l : List Rs) (hl : l.length ≤ 10000) (w : Wr) (n : Int) : Ok Tryz.prog 12 [rssC l, wrC w, intC n] (.fr (tupT [cnC (cntF l w n).1, intC (cntF l w n).2])) := by
  have hX := Crosses_ok l hl w
  have hlen : ∀ b, (crsF l w b).length ≤ 10000 := fun b => by
    have := sd_len cmpR (l.filter okR)
    have := List.length_filter_le okR l
    have := List.length_filter_le (fun r => decide (w ∈ wayF l r) && (r.an == b)) (sd cmpR (l.filter okR))
    unfold crsF; omega
  have e : cntF l w n = if n < 0 ∨ 1048576 < n then (cn0, 1) else if ¬ (crO l w).2.2 = 0 then (cn0, (crO l w).2.2) else (⟨w, ((crO l w).1.length : Int) + (crO l w).2.1.length, max 0 ((crO l w).2.1.length - n), (crO l w).2.1.length⟩, 0) := by
    unfold cntF crO
    by_cases h0 : n < 0 ∨ 1048576 < n
    · rw [if_pos h0, if_pos h0]
    rw [if_neg h0, if_neg h0]
    by_cases h1 : chkF l = 0
    · by_cases h2 : (crsF l w true).length + (crsF l w false).length = 0
      · simp only [ne_eq, h1, h2, not_true_eq_false, if_false, if_true, reduceIte]; rfl
      · simp only [ne_eq, h1, h2, not_true_eq_false, if_false, if_true, reduceIte, List.length_map]
    · simp only [ne_eq, h1, not_false_eq_true, if_true, reduceIte]
  have hl1 : (crO l w).1.length ≤ 10000 ∧ (crO l w).2.1.length ≤ 10000 := by
    unfold crO
    have h1 := hlen true
    have h2 := hlen false
    split
    · simp
    · split
      · simp
      · simp only [List.length_map]; exact ⟨h1, h2⟩
  generalize cntF l w n = out at e ⊢
  generalize crO l w = c at hX e hl1
  obtain ⟨s, t, c⟩ := c
  dsimp only at hX e hl1
  refine Ok.enter Tryz.func12 rfl _ Tryz.ntmps12 rfl ?_
  intro S w0
  refine Qy ?_
  refine Qq (fun K hK => ?_)
  refine XQ 0 rfl rfl rfl rfl rfl rfl rfl ?_
  refine Qi 1 rfl rfl (by with_reducible exact zvCn) rfl rfl rfl ?_
  (refine Qv rfl rfl rfl ?_; refine Qj (hK _ _ (Qx (Qy (Qy ?_)))); clear hK K; refine Qq (fun K hK => ?_); refine Qz rfl rfl rfl ?_; refine Qk ilss rfl rfl rfl rfl ?_; refine Qz rfl rfl rfl ?_)
  refine Qc 13 rfl (fun h1 => ?_) (fun h1 => ?_)
  · rw [if_pos (.inl h1)] at e
    (refine Qw rfl rfl rfl ?_; refine Qw rfl rfl rfl ?_; refine QK rfl rfl rfl rfl ?_; refine Qj (hK _ _ (Qx (Qt rfl (Qy ?_)))); clear hK K; refine Qq (fun K hK => ?_))
    refine Qn rfl (by with_reducible exact bCn) rfl .nil rfl ?_
    (refine Qb 5 rfl rfl rfl rfl rfl (by with_reducible exact szCn) rfl rfl ?_; refine Qv rfl rfl rfl ?_; refine Qj (hK _ _ (Qx (QU (QV ?_)))); clear hK K)
    refine QW [_, _] rfl (Qg (n := 5) rfl rfl (by with_reducible exact lCn) rfl (QQ rfl QX)) (by rw [e]; rfl) rfl
  (refine Qz rfl rfl rfl ?_; refine Qk igtr rfl rfl rfl rfl ?_; refine Q6 rfl rfl rfl rfl ?_; refine Qj (hK _ _ (Qx ?_)); clear hK K)
  refine Q1 rfl (fun h2 => ?_) (fun h2 => ?_)
  · rw [if_pos (.inr h2)] at e
    (refine Qy (Qq fun K hK => ?_))
    refine Qn rfl (by with_reducible exact bCn) rfl .nil rfl ?_
    (refine Qb 5 rfl rfl rfl rfl rfl (by with_reducible exact szCn) rfl rfl ?_; refine Qv rfl rfl rfl ?_; refine Qj (hK _ _ (Qx (QU (QV ?_)))); clear hK K)
    refine QW [_, _] rfl (Qg (n := 5) rfl rfl (by with_reducible exact lCn) rfl (QQ rfl QX)) (by rw [e]; rfl) rfl
  rw [if_neg (fun h => h.elim h1 h2)] at e
  (refine Q0 (Qx (Qy (Qq fun K hK => ?_))); refine Qz rfl rfl rfl ?_; refine Q8 (n := 2) rfl rfl rfl rfl rfl (by with_reducible first | exact lTrav | exact lWire | exact lCs) rfl ?_)
  refine QZ goCrosses hX rfl rfl rfl rfl ?_
  (refine Qz rfl rfl rfl ?_; refine Qa rfl rfl rfl rfl ?_; refine Qa rfl rfl rfl rfl ?_; refine Qa rfl rfl rfl rfl ?_; refine Qv rfl rfl rfl ?_; refine Qv rfl rfl rfl ?_; refine Qv rfl rfl rfl ?_; refine Qj (hK _ _ (Qx (Qy (Qy ?_)))); clear hK K; refine Qq (fun K hK => ?_); refine Qz rfl rfl rfl ?_; refine Qk ineq rfl rfl rfl rfl ?_; refine Qj (hK _ _ (Qx ?_)); clear hK K)
  refine Q1 rfl (fun h3 => ?_) (fun h3 => ?_)
  · rw [if_pos h3] at e
    (refine Qy (Qq fun K hK => ?_))
    refine Qn rfl (by with_reducible exact bCn) rfl .nil rfl ?_
    (refine Qz rfl rfl rfl ?_; refine Qb 5 rfl rfl rfl rfl rfl (by with_reducible exact szCn) rfl rfl ?_; refine Qv rfl rfl rfl ?_; refine Qj (hK _ _ (Qx (QU (QV ?_)))); clear hK K)
    refine QW [_, _] rfl (Qg (n := 5) rfl rfl (by with_reducible exact lCn) rfl (QQ rfl QX)) (by rw [e]; rfl) rfl
  rw [if_neg h3] at e
  (refine Q0 (Qx (Qy (Qq fun K hK => ?_))); refine Q8 (n := 2) rfl rfl rfl rfl rfl (by with_reducible first | exact lTrav | exact lWire | exact lCs) rfl ?_; refine Qz rfl rfl rfl ?_; refine Qd rfl rfl (by with_reducible first | exact sTks.und | exact sWrs.und | exact sIks.und | exact sAdrs.und) (List.length_map ..) rfl ?_; refine Qz rfl rfl rfl ?_; refine Qd rfl rfl (by with_reducible first | exact sTks.und | exact sWrs.und | exact sIks.und | exact sAdrs.und) (List.length_map ..) rfl ?_; refine Qk (iadd (by omega) (by omega)) rfl rfl rfl rfl ?_; refine Qz rfl rfl rfl ?_; refine Qd rfl rfl (by with_reducible first | exact sTks.und | exact sWrs.und | exact sIks.und | exact sAdrs.und) (List.length_map ..) rfl ?_)
  refine Qn rfl (by with_reducible exact bCs) rfl (.one rfl rfl rfl rfl (.one rfl rfl rfl rfl .nil)) rfl ?_
  (refine Qz rfl rfl rfl ?_)
  refine QZ gocounted (counted_ok w (s.length + t.length) t.length n (by omega) (by omega) (by omega)) rfl rfl rfl rfl ?_
  (refine Qb 5 rfl rfl rfl rfl rfl (by with_reducible exact szCn) rfl rfl ?_; refine Qv rfl rfl rfl ?_; refine Qj (hK _ _ (Qx (QU ?_))); clear hK K)
  refine QW [_, _] rfl (Qg (n := 5) rfl rfl (by with_reducible exact lCn) rfl (QQ rfl QX)) (by rw [e]; rfl) rfl
end Go.Proofs.YtlkdkbdgnjcopaaGreat
namespace Go.Proofs.YtlkdkbdgnjcopaaGreat
open Go.Own
theorem sNat : SlcT Tryz.prog 51 3 1 8 (.int .i64 0) := SlcT.of Tryz.underlying51 (by kernel_rfl) rfl (by decide)
theorem lNat : Ld1 Tryz.prog 51 := Ld1.of _ Tryz.underlying51 rfl
attribute [local irreducible] Go.Own.Fin Ok Ops St
theorem at_ok (xs : List Int) (i : Int) (hi : 0 ≤ i) : Ok Tryz.prog 178 [intsC xs, intC i] (intC (xs.getD i.toNat 0)) := by
  refine Ok.enter Tryz.func178 J _ Tryz.ntmps178 J ?_
  intro S w; refine Qy (Qq fun K hK => ?_); refine Qv J J J (Qj (hK _ _ ?_)); refine Qx (Qy (Qy (Qq fun K hK => ?_))); refine Qz J J J (Qz J J J (Qd J J sNat.und (List.length_map ..) J (Qk ilss J J J J (Qj (hK _ _ ?_))))); refine Qx (Q1 J (fun h => ?_) (fun h => ?_))
  · refine Qy (Qq fun K hK => ?_); refine Qz J J J (Qz J J J (Qm J J J sNat (by omega) (XV (by omega) (by omega)) J ?_)); refine Xx J J J lInt J (Qv J J J (Qj (hK _ _ ?_))); refine Qx (QU (QV ?_)); refine QW [_] rfl (QQ J QX) J J
  · refine Q0 (Qx (Qy (Qq fun K hK => ?_))); refine Qv J J J (Qj (hK _ _ ?_)); refine Qx (QU ?_)
    have hx : xs.getD i.toNat 0 = 0 := by
      rw [List.getD_eq_getElem?_getD, List.getElem?_eq_none (by omega)]; rfl
    rw [hx]; refine QW [_] rfl (QQ J QX) J J
end Go.Proofs.YtlkdkbdgnjcopaaGreat
namespace Go.Proofs.YtlkdkbdgnjcopaaGreat
open Go.Own Go.Limbs
attribute [local irreducible] St Ops Go.Own.Fin Ok
theorem trim_ok (xs : List Int) (hl : xs.length < 4611686018427387904) : Ok Tryz.prog 173 [intsC xs] (intsC (trimL xs)) := by
  refine Ok.enter Tryz.func173 J _ Tryz.ntmps173 J ?_
  intro S w; refine Qy (Qq fun K hK => ?_); refine Qv J J J (Qj (hK _ _ ?_)); refine Qx (Qy (Q2 ?_))
  refine Xz (α := List Int) (fun ys => trimL ys = trimL xs ∧ ys.length ≤ xs.length) (fun ys => [(0, .ct (intsC ys))]) (fun _ => []) (fun ys => ys.length) xs ⟨rfl, Nat.le_refl _⟩ (Entails.sub ⟨rfl, trivial⟩) ?_
  intro ys ⟨hy, hle⟩; refine Qy (Qy (Qq fun K hK => ?_)); refine Qz J J J (Qd J J sNat.und (List.length_map ..) J (Qk igtr J J J J (Qz J J J (Qc 6 J (fun h => ?_) (fun h => ?_)))))
  · refine Qz J J J (Qz J J J (Qd J J sNat.und (List.length_map ..) J (Qk (isub (by omega) (by omega)) J J J J ?_)))
    refine Qm J J J sNat (by omega) (XV (by omega) (by omega)) J ?_
    refine Xx J J J lInt J (Qk ieql J J J J (QK J J J J (Qj (hK _ _ ?_))))
    refine Qx ?_
    have e1 : ((ys.length : Int) - 1).toNat = ys.length - 1 := by omega
    refine Q1 J (fun h2 => ?_) (fun h2 => ?_)
    · rw [e1] at h2; refine Q0 (Qx (Q2 (Qq fun K hK => ?_))); refine Qz J J J (Qz J J J (Qd J J sNat.und (List.length_map ..) J (Qk (isub (by omega) (by omega)) J J J J ?_)))
      refine Ops.cutHi J J J sNat (by omega) (by simp) J ?_
      rw [← List.map_take]; refine Qv J J J (Qj (hK _ _ ?_)); refine Q3 (Q4 ?_); refine Q9 (ys.take ((ys.length : Int) - 1).toNat) (by simp; omega) ⟨?_, by simp; omega⟩ (Entails.sub ⟨rfl, trivial⟩); rw [e1, ← hy]; exact trim_last (by omega) h2
    · rw [e1] at h2; refine Qo (Qx (Qy (Qq fun K hK => ?_))); refine Qz J J J (Qv J J J (Qj (hK _ _ ?_))); refine Qx (QU ?_); rw [← hy, trim_done (fun _ => h2)]; refine QW [_] rfl (QQ J QX) J J
  · refine Qw J J J (Qw J J J (Qw J J J (Qw J J J (Qw J J J (Qw J J J (Qw J J J (Q6 J J J J (Qj (hK _ _ ?_))))))))); refine Qx (Xy J (Qo (Qx (Qy (Qq fun K hK => ?_))))); refine Qz J J J (Qv J J J (Qj (hK _ _ ?_))); refine Qx (QU ?_); rw [← hy, trim_done (fun h3 => absurd h3 (by omega))]; refine QW [_] rfl (QQ J QX) J J
theorem gotrim : InGo Tryz.prog 173 := InGo.of Tryz.func173 (by kernel_rfl) (by kernel_rfl)
def resultC (xs : List Int) : CT := if (trimL xs).length > 256 then .fr (tupT [intsC [], intC 3]) else .fr (tupT [intsC (trimL xs), intC 0])
theorem result_ok (xs : List Int) (hl : xs.length ≤ 256) : Ok Tryz.prog 179 [intsC xs] (.fr (tupT [intsC (trimL xs), intC 0])) := by
  refine Ok.enter Tryz.func179 J _ Tryz.ntmps179 J ?_
  intro S w; refine Qy (Qq fun K hK => ?_); refine Qv J J J (Qv J J J (Qj (hK _ _ ?_))); refine Qx (Qy (Qy (Qq fun K hK => ?_))); refine Qz J J J (QZ gotrim (trim_ok xs (by omega)) J J J J ?_); refine Qv J J J (Qj (hK _ _ ?_)); refine Qx (Qy (Qq fun K hK => ?_)); refine Qz J J J (Qd J J sNat.und (List.length_map ..) J (Qk igtr J J J J (Qj (hK _ _ ?_))))
  refine Qx ?_
  have := trim_len xs; refine Q1 J (fun h2 => ?_) (fun h2 => ?_)
  · omega
  · refine Q0 (Qx (Qy (Qq fun K hK => ?_))); refine Qz J J J (Qv J J J (Qv J J J (Qj (hK _ _ ?_)))); refine Qx (QU ?_); refine QW [_, _] rfl (QQ J (QQ J QX)) J J
end Go.Proofs.YtlkdkbdgnjcopaaGreat
namespace Go.Limbs
abbrev BB : Int := 1073741824
def val : List Int → Int
  | [] => 0
  | x :: xs => x + BB * val xs
def OKL (xs : List Int) : Prop := ∀ x ∈ xs, 0 ≤ x ∧ x < BB
theorem OKL.nil : OKL [] := fun _ h => by cases h
theorem OKL.cons {x : Int} {xs : List Int} (h : 0 ≤ x ∧ x < BB) (hs : OKL xs) : OKL (x :: xs) := fun y hy => by
  rcases List.mem_cons.1 hy with rfl | hy
  · exact h
  · exact hs y hy
theorem OKL.tail {x : Int} {xs : List Int} (h : OKL (x :: xs)) : OKL xs := fun y hy => h y (List.mem_cons_of_mem _ hy)
theorem OKL.head {x : Int} {xs : List Int} (h : OKL (x :: xs)) : 0 ≤ x ∧ x < BB := h x (List.mem_cons_self ..)
theorem OKL.append {xs ys : List Int} (h : OKL xs) (h' : OKL ys) : OKL (xs ++ ys) := fun y hy => by
  rcases List.mem_append.1 hy with hy | hy
  · exact h y hy
  · exact h' y hy
theorem OKL.zeros (n : Nat) : OKL (List.replicate n 0) := fun y hy => by rw [List.eq_of_mem_replicate hy]; decide
theorem OKL.set {xs : List Int} (h : OKL xs) (i : Nat) {x : Int} (hx : 0 ≤ x ∧ x < BB) : OKL (xs.set i x) := fun y hy => by
  rcases List.mem_or_eq_of_mem_set hy with hy | rfl
  · exact h y hy
  · exact hx
theorem OKL.get {xs : List Int} (h : OKL xs) (i : Nat) : 0 ≤ xs.getD i 0 ∧ xs.getD i 0 < BB := by
  rw [List.getD_eq_getElem?_getD]
  cases e : xs[i]? with
  | none => decide
  | some x => exact h x (List.mem_of_getElem? e)
theorem val_nonneg {xs : List Int} (h : OKL xs) : 0 ≤ val xs := by
  induction xs with
  | nil => decide
  | cons x xs ih => have := ih h.tail; have := h.head; simp only [val, BB] at *; omega
theorem val_append (xs ys : List Int) : val (xs ++ ys) = val xs + BB ^ xs.length * val ys := by
  induction xs with
  | nil => simp [val]
  | cons x xs ih => simp only [List.cons_append, val, ih, List.length_cons]; grind
theorem val_zeros (n : Nat) : val (List.replicate n 0) = 0 := by
  induction n with
  | zero => rfl
  | succ n ih => simp [List.replicate_succ, val, ih]
theorem val_trim (xs : List Int) : val (trimL xs) = val xs := by
  induction xs with
  | nil => rfl
  | cons x xs ih =>
    simp only [trimL]; split
    · rename_i e
      rw [e] at ih; simp only [val] at ih ⊢; split
      · rename_i e0; subst e0; simp [val, ← ih]
      · simp [val, ← ih]
    · rename_i y ys e; rw [e] at ih; simp only [val] at ih ⊢; rw [ih]
theorem OKL.trim {xs : List Int} (h : OKL xs) : OKL (trimL xs) := by
  induction xs with
  | nil => exact h
  | cons x xs ih =>
    simp only [trimL]; split
    · split
      · exact OKL.nil
      · exact OKL.cons h.head OKL.nil
    · rename_i y ys e
      have := ih h.tail; rw [e] at this; exact OKL.cons h.head this
def limbs (n : Nat) : List Int := if h : n = 0 then [] else ((n % 1073741824 : Nat) : Int) :: limbs (n / 1073741824)
termination_by n
decreasing_by exact Nat.div_lt_self (by omega) (by decide)
theorem limbs_zero : limbs 0 = [] := by unfold limbs; rfl
theorem limbs_pos {n : Nat} (h : n ≠ 0) : limbs n = ((n % 1073741824 : Nat) : Int) :: limbs (n / 1073741824) := by rw [limbs]; simp [h]
theorem X2 (n : Nat) : OKL (limbs n) := by
  induction n using Nat.strongRecOn with
  | ind n ih =>
    by_cases h : n = 0
    · subst h; rw [limbs_zero]; exact OKL.nil
    · rw [limbs_pos h]; refine OKL.cons (by simp only [BB]; omega) (ih _ (Nat.div_lt_self (by omega) (by decide)))
theorem Xp (n : Nat) : val (limbs n) = n := by
  induction n using Nat.strongRecOn with
  | ind n ih =>
    by_cases h : n = 0
    · subst h; rw [limbs_zero]; rfl
    · rw [limbs_pos h, val, ih _ (Nat.div_lt_self (by omega) (by decide))]; simp only [BB]; omega
theorem Z5 {n : Nat} (h : limbs n = []) : n = 0 := by
  by_cases h0 : n = 0
  · exact h0
  · rw [limbs_pos h0] at h; cases h
theorem limbs_val {xs : List Int} (h : OKL xs) (ht : trimL xs = xs) : xs = limbs (val xs).toNat := by
  induction xs with
  | nil => simp [val, limbs_zero]
  | cons x xs ih =>
    have hx := h.head; have hv := val_nonneg h.tail
    have ht2 : trimL xs = xs ∧ ¬ (xs = [] ∧ x = 0) := by
      simp only [trimL] at ht; split at ht
      · rename_i e
        split at ht
        · cases ht
        · rename_i hne; injection ht with _ h2; subst h2; exact ⟨e, fun h => hne h.2⟩
      · rename_i y ys e; injection ht with _ h2; rw [e, h2]; exact ⟨rfl, fun h => by rw [h.1] at h2; cases h2⟩
    have ih2 := ih h.tail ht2.1
    have hne : (val (x :: xs)).toNat ≠ 0 := by
      intro h0; simp only [val, BB] at h0
      have hx0 : x = 0 := by simp only [BB] at hx; omega
      have hv0 : val xs = 0 := by omega
      rw [hv0] at ih2; exact ht2.2 ⟨by rw [ih2]; exact limbs_zero, hx0⟩
    rw [limbs_pos hne]; simp only [val, BB] at *
    congr 1
    · omega
    · rw [ih2]; congr 1; rw [← ih2]; omega
theorem trim_trim (xs : List Int) : trimL (trimL xs) = trimL xs := by
  induction xs with
  | nil => rfl
  | cons x xs ih =>
    simp only [trimL]; split
    · split
      · rfl
      · rename_i h; simp [trimL, h]
    · rename_i y ys e; rw [e] at ih; rw [trimL, ih]
theorem Zk {xs : List Int} (h : OKL xs) : trimL xs = limbs (val xs).toNat := by
  have := limbs_val h.trim (trim_trim xs)
  rwa [val_trim] at this
theorem trim_of_limbs (n : Nat) : trimL (limbs n) = limbs n := by rw [Zk (X2 n), Xp]; simp
def pre (xs : List Int) (i : Nat) : Int := val (xs.take i)
theorem ZJ (xs : List Int) : pre xs 0 = 0 := by simp [pre, val]
theorem Xa (xs : List Int) (i : Nat) : pre xs (i + 1) = pre xs i + xs.getD i 0 * BB ^ i := by
  unfold pre; by_cases h : i < xs.length
  · rw [List.take_succ_eq_append_getElem h, val_append]
    have hl : (xs.take i).length = i := by simp; omega
    rw [hl]; simp [val, List.getD_eq_getElem?_getD, List.getElem?_eq_getElem h]; grind
  · rw [List.take_of_length_le (by omega), List.take_of_length_le (by omega), List.getD_eq_getElem?_getD, List.getElem?_eq_none (by omega)]; simp
theorem Z7 {xs : List Int} {i : Nat} (h : xs.length ≤ i) : pre xs i = val xs := by unfold pre; rw [List.take_of_length_le h]
theorem set_snoc {zs : List Int} {n : Nat} (x : Int) : (zs ++ List.replicate (n + 1) 0).set zs.length x = (zs ++ [x]) ++ List.replicate n 0 := by
  rw [List.set_append_right _ _ (Nat.le_refl _)]; simp [List.replicate_succ]
theorem Xv {n k : Nat} (h : n < 1073741824 ^ k) : (limbs n).length ≤ k := by
  induction k generalizing n with
  | zero => have : n = 0 := by omega
            subst this; simp [limbs_zero]
  | succ k ih =>
    by_cases h0 : n = 0
    · subst h0; simp [limbs_zero]
    · rw [limbs_pos h0]
      have : n / 1073741824 < 1073741824 ^ k := by rw [Nat.div_lt_iff_lt_mul (by decide)]; rw [Nat.pow_succ] at h; exact h
      have := ih this; simp; omega
theorem XU {n k : Nat} (h : (limbs n).length ≤ k) : n < 1073741824 ^ k := by
  induction k generalizing n with
  | zero =>
    have : limbs n = [] := List.eq_nil_of_length_eq_zero (by omega); have := Z5 this; subst this; decide
  | succ k ih =>
    by_cases h0 : n = 0
    · subst h0; exact Nat.pow_pos (by decide)
    · rw [limbs_pos h0] at h; have := ih (n := n / 1073741824) (by simpa using h); rw [Nat.div_lt_iff_lt_mul (by decide)] at this; rw [Nat.pow_succ]; exact this
end Go.Limbs
namespace Go.Proofs.YtlkdkbdgnjcopaaGreat
open Go.Own Go.Limbs
attribute [local irreducible] St Ops Go.Own.Fin Ok
theorem goat : InGo Tryz.prog 178 := InGo.of Tryz.func178 (by kernel_rfl) (by kernel_rfl)
theorem goresult : InGo Tryz.prog 179 := InGo.of Tryz.func179 (by kernel_rfl) (by kernel_rfl)
abbrev natC (n : Nat) : CT := intsC (limbs n)
theorem Add_list (xs ys : List Int) (hx : xs.length ≤ 200) (hy : ys.length ≤ 200) (bx : OKL xs) (by' : OKL ys) :
    Ok Tryz.prog 140 [intsC xs, intsC ys] (.fr (tupT [natC (val xs + val ys).toNat, intC 0])) := by
  refine Ok.enter Tryz.func140 J _ Tryz.ntmps140 J ?_
  intro S w; refine Qy (Qq fun K hK => ?_); refine Qv J J J (Qv J J J (Qj (hK _ _ ?_))); refine Qx (Qy (Qq fun K hK => ?_)); refine Qz J J J (Qd J J sNat.und (List.length_map ..) J (Qz J J J (Qd J J sNat.und (List.length_map ..) J (Ops.max2 J J J J (Qv J J J (Qj (hK _ _ ?_))))))); refine Qx (Qy (Qq fun K hK => ?_)); refine Qz J J J (Qk (iadd (by omega) (by omega)) J J J J ?_)
  refine Ops.make 0 (max xs.length ys.length + 1) J J J (by omega) sNat (by omega) (by omega) J J J ?_
  rw [ints_made]; refine Qv J J J (Qj (hK _ _ ?_)); refine Qx (Qy (Qq fun K hK => ?_)); refine Qv J J J (Qj (hK _ _ ?_)); refine Qx (Qy (Qy (Qq fun K hK => ?_))); refine Qz J J J (Qz J J J (Qj (hK _ _ ?_))); refine Qx (Q2 ?_)
  refine Xz (α := Nat × List Int × Int) (fun s => s.1 ≤ max xs.length ys.length ∧ s.2.1.length = s.1 ∧ OKL s.2.1 ∧ 0 ≤ s.2.2 ∧ s.2.2 ≤ 1 ∧ val s.2.1 + s.2.2 * BB ^ s.1 = pre xs s.1 + pre ys s.1)
    (fun s => [(0, .ct (intsC xs)), (1, .ct (intsC ys)), (6, .ct (intC (max ↑xs.length ↑ys.length))), (7, .own 0), (8, .ct (intC s.2.2)), (19, .ct (intC (max ↑xs.length ↑ys.length))), (20, .ct (intC s.1))])
    (fun s => [(0, .row 3 1 (ints (s.2.1 ++ List.replicate (max xs.length ys.length + 1 - s.1) 0)))])
    (fun s => max xs.length ys.length - s.1) (0, [], 0) ⟨Nat.zero_le _, rfl, OKL.nil, by decide, by decide, by simp [val, ZJ]⟩ (by exact Qu J ⟨rfl, rfl, rfl, rfl, rfl, rfl, rfl, trivial⟩) ?_
  rintro ⟨i, zs, c⟩ ⟨hi, hz, hok, hc0, hc1, hv⟩
  dsimp only at hi hz hok hc0 hc1 hv ⊢; refine Qy (Qq fun K hK => ?_); refine Qk ilss J J J J (Qj (hK _ _ ?_)); refine Qx (Qy ?_); refine Q1 J (fun h => ?_) (fun h => ?_)
  · have b1 := bx.get i
    have b2 := by'.get i
    simp only [BB] at b1 b2; refine Q0 (Qx (Qy (Q2 (Qy (Qq fun K hK => ?_))))); refine Qz J J J (Qv J J J (Qj (hK _ _ ?_))); refine Qx (Qy (Qq fun K hK => ?_)); refine Qz J J J (Qz J J J (QZ goat (at_ok xs i (by omega)) J J J J ?_)); refine Qz J J J (Qz J J J (QZ goat (at_ok ys i (by omega)) J J J J ?_)); rw [Int.toNat_natCast]
    refine Qk (iadd (by omega) (by omega)) J J J J ?_
    refine Qz J J J (Qk (iadd (by omega) (by omega)) J J J J ?_); refine Qv J J J (Qj (hK _ _ ?_)); refine Qx (Qq fun K hK => ?_); refine Qz J J J (Qz J J J (Qz J J J (Qk iand30 J J J J (Qz J J J (Qk ishr30 J J J J (ZQ (max xs.length ys.length + 1) J J J (by simp; omega) J sNat (by omega) (by omega) J ?_))))))
    refine Zx J J J J J zInt (by simp [Ent.cs]; omega) ?_
    simp only [Ent.setc, ints_set]; refine Qv J J J (Qj (hK _ _ ?_)); refine Qx (Qq fun K hK => ?_)
    refine Qk (iadd (by omega) (by omega)) J J J J ?_
    refine Qz J J J (Qj (hK _ _ ?_)); refine Q4 (Q9 (i + 1, zs ++ [(xs.getD i 0 + ys.getD i 0 + c) % 1073741824], (xs.getD i 0 + ys.getD i 0 + c) / 1073741824) (by dsimp only; omega) ⟨by dsimp only; omega, by simp [hz], ?_, ?_, ?_, ?_⟩ ?_)
    all_goals dsimp only
    · exact hok.append (OKL.cons (by simp only [BB]; omega) OKL.nil)
    · omega
    · omega
    · rw [val_append, hz, Xa, Xa]; have e := Int.mul_ediv_add_emod (xs.getD i 0 + ys.getD i 0 + c) 1073741824; simp only [val, BB] at *; generalize (xs.getD i 0 + ys.getD i 0 + c) / 1073741824 = q at *; generalize (xs.getD i 0 + ys.getD i 0 + c) % 1073741824 = m at *
      grind
    · refine Qu ?_ ⟨rfl, rfl, rfl, rfl, rfl, rfl, by simp only [Int.natCast_add]; rfl, trivial⟩
      have e1 : max xs.length ys.length + 1 - i = (max xs.length ys.length - i) + 1 := by omega
      have e2 : max xs.length ys.length + 1 - (i + 1) = max xs.length ys.length - i := by omega
      have e3 : (i : Int).toNat * 1 = zs.length := by omega
      rw [e1, e2, e3, set_snoc]; rfl
  · refine Qo (Qx (Qy (Qq fun K hK => ?_))); refine Qz J J J (Qz J J J (Qz J J J ?_))
    have hi' : i = max xs.length ys.length := by omega
    have e1 : max xs.length ys.length + 1 - i = 0 + 1 := by omega
    refine ZQ (max xs.length ys.length + 1) J J J (by simp; omega) J sNat (by omega) (by omega) J ?_
    refine Zx J J J J J zInt (by simp [Ent.cs]; omega) ?_
    simp only [Ent.setc, ints_set]
    have e3 : (max (xs.length : Int) ys.length).toNat * 1 = zs.length := by omega
    rw [e3, e1, set_snoc]; refine Qj (hK _ _ ?_); refine Qx (Qy (Qq fun K hK => ?_)); refine Qz J J J (Xs 0 _ J (Xc _ _) XW (QZ goresult (result_ok _ (by simp; omega)) J J J J ?_))
    have e4 : trimL (zs ++ [c] ++ List.replicate 0 0) = limbs (val xs + val ys).toNat := by
      have h1 : OKL (zs ++ [c]) := hok.append (OKL.cons (by simp only [BB]; omega) OKL.nil); simp only [List.replicate_zero, List.append_nil]; rw [Zk h1, val_append, hz]; rw [Z7 (by omega), Z7 (by omega)] at hv
      congr 2
      simp only [val]; grind
    rw [e4]; refine Qa J J J J (Qa J J J J (Qv J J J (Qv J J J (Qj (hK _ _ ?_))))); refine Qx (QU ?_); refine QW [_, _] rfl (QQ J (QQ J QX)) J J
end Go.Proofs.YtlkdkbdgnjcopaaGreat
namespace Go.Limbs
def cmpI (a b : Int) : Int := if a < b then -1 else if b < a then 1 else 0
theorem cmpI_neg {a b : Int} : cmpI a b < 0 ↔ a < b := by unfold cmpI; split <;> (try split) <;> omega
theorem X4 (a b : Int) : cmpI a b = if a < b then -1 else if b < a then 1 else 0 := rfl
theorem pre_bd {xs : List Int} (h : OKL xs) (i : Nat) : 0 ≤ pre xs i ∧ pre xs i < BB ^ i := by
  induction i with
  | zero => rw [ZJ]; simp
  | succ i ih =>
    rw [Xa]; have := h.get i; have hp : 0 < BB ^ i := Int.pow_pos (by decide); obtain ⟨h1, h2⟩ := this; refine ⟨?_, ?_⟩
    · have := Int.mul_nonneg h1 (Int.le_of_lt hp); omega
    · have h3 : xs.getD i 0 * BB ^ i ≤ (BB - 1) * BB ^ i := Int.mul_le_mul_of_nonneg_right (by omega) (Int.le_of_lt hp)
      have h4 : BB ^ (i + 1) = BB * BB ^ i := by rw [Int.pow_succ, Int.mul_comm]
      rw [h4]
      have h5 : (BB - 1) * BB ^ i = BB * BB ^ i - BB ^ i := by rw [Int.sub_mul, Int.one_mul]
      omega
theorem pre_decides {xs ys : List Int} (hx : OKL xs) (hy : OKL ys) {k : Nat} (h : xs.getD k 0 < ys.getD k 0) : pre xs (k + 1) < pre ys (k + 1) := by
  rw [Xa, Xa]; have h1 := pre_bd hx k; have h2 := pre_bd hy k; have hp : 0 < BB ^ k := Int.pow_pos (by decide); have h3 : (xs.getD k 0 + 1) * BB ^ k ≤ ys.getD k 0 * BB ^ k := Int.mul_le_mul_of_nonneg_right (by omega) (Int.le_of_lt hp); rw [Int.add_mul, Int.one_mul] at h3; omega
theorem X1 {a b : Nat} (h : a ≤ b) : (limbs a).length ≤ (limbs b).length := Xv (Nat.lt_of_le_of_lt h (XU (Nat.le_refl _)))
theorem lt_of_len {a b : Nat} (h : (limbs a).length < (limbs b).length) : a < b := by
  rcases Nat.lt_or_ge a b with h1 | h1
  · exact h1
  · have := X1 h1; omega
theorem val_eq_pre (n : Nat) : pre (limbs n) (limbs n).length = n := by rw [Z7 (Nat.le_refl _), Xp]
def validL (xs : List Int) : Bool := xs.all (fun x => decide (0 ≤ x) && decide (x < BB)) && decide (xs.length ≤ 256) && (decide (xs.length = 0) || decide (xs.getD (xs.length - 1) 0 ≠ 0))
end Go.Limbs
namespace Go.Proofs.YtlkdkbdgnjcopaaGreat
open Go.Own Go.Limbs
attribute [local irreducible] St Ops Go.Own.Fin Ok
theorem isNaN_ok (x : Int) : Ok Tryz.prog 160 [intC x] (boolC false) := by
  refine Ok.enter Tryz.func160 J _ Tryz.ntmps160 J ?_
  intro S w; refine Qy (Qq fun K hK => ?_); refine Qv J J J (Qj (hK _ _ ?_)); refine Qx (Qy (Qq fun K hK => ?_)); refine Qz J J J (Qz J J J (Qk ineq J J J J (Qv J J J (Qj (hK _ _ ?_))))); refine Qx (QU ?_)
  have : decide (x ≠ x) = false := by simp
  rw [this]; refine QW [_] rfl (QQ J QX) J J
theorem goisNaN : InGo Tryz.prog 160 := InGo.of Tryz.func160 (by kernel_rfl) (by kernel_rfl)
theorem cmp_ok (x y : Int) : Ok Tryz.prog 124 [intC x, intC y] (intC (cmpI x y)) := by
  refine Ok.enter Tryz.func124 J _ Tryz.ntmps124 J ?_
  intro S w; refine Qy (Qq fun K hK => ?_); refine Qv J J J (Qj (hK _ _ ?_)); refine Qx (Qy (Qq fun K hK => ?_)); refine Qz J J J (QZ goisNaN (isNaN_ok x) J J J J (Qv J J J (Qj (hK _ _ ?_)))); refine Qx (Qy (Qq fun K hK => ?_)); refine Qz J J J (QZ goisNaN (isNaN_ok y) J J J J (Qv J J J (Qj (hK _ _ ?_)))); refine Qx (Qy (Qy (Qq fun K hK => ?_))); refine Qz J J J (Qj (hK _ _ ?_)); refine Qx (Xy J (Q0 (Qx (Qy (Qy (Qq fun K hK => ?_)))))); refine Qz J J J (Qj (hK _ _ ?_)); refine Qx (Xy J (Q0 (Qx (Qy (Qy (Qq fun K hK => ?_)))))); refine Qz J J J (Qz J J J (Qk ilss J J J J (Qj (hK _ _ ?_)))); refine Qx (Q1 J (fun h => ?_) (fun h => ?_))
  · refine Qy (Qq fun K hK => ?_); refine Qv J J J (Qj (hK _ _ ?_)); refine Qx (QU (QV ?_)); rw [X4, if_pos h]; refine QW [_] rfl (QQ J QX) J J
  · refine Q0 (Qx (Qy (Qy (Qq fun K hK => ?_)))); refine Qz J J J (Qz J J J (Qk igtr J J J J (Qj (hK _ _ ?_)))); refine Qx (Q1 J (fun h2 => ?_) (fun h2 => ?_))
    · refine Qy (Qq fun K hK => ?_); refine Qv J J J (Qj (hK _ _ ?_)); refine Qx (QU (QV ?_)); rw [X4, if_neg h, if_pos h2]; refine QW [_] rfl (QQ J QX) J J
    · refine Q0 (Qx (Qy (Qq fun K hK => ?_))); refine Qv J J J (Qj (hK _ _ ?_)); refine Qx (QU ?_); rw [X4, if_neg h, if_neg h2]; refine QW [_] rfl (QQ J QX) J J
theorem gocmp : InGo Tryz.prog 124 := InGo.of Tryz.func124 (by kernel_rfl) (by kernel_rfl)
set_option maxHeartbeats 2000000 in
theorem Compare_ok (a b : Nat) (ha : (limbs a).length < 4611686018427387904) (hb : (limbs b).length < 4611686018427387904) : Ok Tryz.prog 174 [natC a, natC b] (intC (cmpI a b)) := by
  refine Ok.enter Tryz.func174 J _ Tryz.ntmps174 J ?_
  intro S w; refine Qy (Qq fun K hK => ?_); refine Qv J J J (Qj (hK _ _ ?_)); refine Qx (Qy (Qy (Qq fun K hK => ?_))); refine Qz J J J (Qd J J sNat.und (List.length_map ..) J (Qz J J J (Qd J J sNat.und (List.length_map ..) J (QZ gocmp (cmp_ok _ _) J J J J (Qv J J J (Qj (hK _ _ ?_))))))); refine Qx (Qy (Qq fun K hK => ?_)); refine Qz J J J (Qk ineq J J J J (Qj (hK _ _ ?_))); refine Qx (Q1 J (fun h => ?_) (fun h => ?_))
  · refine Qy (Qq fun K hK => ?_); refine Qz J J J (Qv J J J (Qj (hK _ _ ?_))); refine Qx (QU (QV ?_))
    have e : cmpI ((limbs a).length : Int) ((limbs b).length : Int) = cmpI (a : Int) (b : Int) := by
      rcases Nat.lt_trichotomy (limbs a).length (limbs b).length with h1 | h1 | h1
      · have := lt_of_len h1; rw [X4, X4, if_pos (by omega), if_pos (by omega)]
      · rw [h1] at h; simp [cmpI] at h
      · have := lt_of_len h1; rw [X4, X4, if_neg (by omega), if_pos (by omega), if_neg (by omega), if_pos (by omega)]
    rw [e]; refine QW [_] rfl (QQ J QX) J J
  · have hl : (limbs a).length = (limbs b).length := by
      simp only [ne_eq, Classical.not_not] at h; unfold cmpI at h; split at h
      · cases h
      · split at h
        · cases h
        · omega
    clear h; refine Q0 (Qx (Qy (Qy (Qq fun K hK => ?_)))); refine Qz J J J (Qd J J sNat.und (List.length_map ..) J (Qk (isub (by omega) (by omega)) J J J J ?_)); refine Qv J J J (Qj (hK _ _ ?_)); refine Qx (Q2 ?_)
    refine Xz (α := Nat) (fun k => k ≤ (limbs a).length ∧ pre (limbs a) k - pre (limbs b) k = (a : Int) - b)
      (fun k => [(0, .ct (natC a)), (1, .ct (natC b)), (6, .ct (intC ((k : Int) - 1)))]) (fun _ => []) (fun k => k) (limbs a).length ⟨Nat.le_refl _, ?_⟩ (by exact Qu J ⟨rfl, rfl, rfl, trivial⟩) ?_
    · have e1 := val_eq_pre a; have e2 := val_eq_pre b; rw [← hl] at e2; rw [e1, e2]
    intro k ⟨hk, hv⟩; dsimp only; refine Qy (Qy (Qq fun K hK => ?_)); refine Qz J J J (Qk igeq J J J J (Qj (hK _ _ ?_))); refine Qx (Q1 J (fun h => ?_) (fun h => ?_))
    · obtain ⟨q, rfl⟩ : ∃ q, k = q + 1 := ⟨k - 1, by omega⟩
      have e1 : (((q + 1 : Nat) : Int) - 1) = (q : Int) := by omega
      have e2 : (q : Int).toNat = q := Int.toNat_natCast q; rw [e1]; refine Q0 (Qx (Qy (Q2 (Qy ?_)))); refine XJ mixed 9 (.p 0 (.p 1 (.p 2 (.p 4 (.p 5 (.p 6 (.f 3 (.f 7 (.p 8 .done))))))))) (by kernel_rfl) (fun K hK => ?_); refine Qz J J J (Qz J J J (Qm J J J sNat (by omega) (XV (by omega) (by omega)) J ?_)); refine Qz J J J (Qz J J J (Qm J J J sNat (by omega) (XV (by omega) (by omega)) J ?_)); refine Xx J J J lInt J (Xx J J J lInt J (Qk ineq J J J J (Qj (hK _ _ ?_)))); refine Qx (Q1 J (fun h2 => ?_) (fun h2 => ?_))
      · refine Qy (XJ mixed 10 (.p 0 (.p 1 (.p 2 (.p 4 (.p 5 (.p 6 (.f 3 (.f 7 (.m 8 (.p 9 .done)))))))))) (by kernel_rfl) (fun K hK => ?_)); refine Qz J J J (Qz J J J (Qm J J J sNat (by omega) (XV (by omega) (by omega)) J ?_)); refine Qz J J J (Qz J J J (Qm J J J sNat (by omega) (XV (by omega) (by omega)) J ?_)); refine Xx J J J lInt J (Xx J J J lInt J (QZ gocmp (cmp_ok _ _) J J J J ?_)); rw [e2] at h2 ⊢
        have e : cmpI ((limbs a).getD q 0) ((limbs b).getD q 0) = cmpI (a : Int) (b : Int) := by
          rcases Int.lt_or_gt_of_ne h2 with h3 | h3
          · have := pre_decides (X2 a) (X2 b) h3; rw [X4, X4, if_pos h3, if_pos (by omega)]
          · have := pre_decides (X2 b) (X2 a) h3; rw [X4, X4, if_neg (by omega), if_pos h3, if_neg (by omega), if_pos (by omega)]
        rw [e]; refine Qv J J J (Qj (hK _ _ ?_)); refine Qx (QU (Q5 (QV (QV (Q5 (QV ?_)))))); refine QW [_] rfl (QQ J QX) J J
      · rw [e2] at h2; refine Q0 (Qx (Qq fun K hK => ?_)); refine Qz J J J (Qk (isub (by omega) (by omega)) J J J J ?_); refine Qv J J J (Qj (hK _ _ ?_)); refine Q4 (Q9 q (by omega) ⟨by omega, ?_⟩ (by exact Qu J ⟨rfl, rfl, rfl, trivial⟩)); rw [Xa, Xa] at hv; have : (limbs a).getD q 0 = (limbs b).getD q 0 := Classical.not_not.1 h2; rw [this] at hv; omega
    · refine Qo (Qx (Qy (Qq fun K hK => ?_))); refine Qv J J J (Qj (hK _ _ ?_)); refine Qx (QU ?_)
      have hk0 : k = 0 := by omega
      subst hk0; rw [ZJ, ZJ] at hv; rw [X4, if_neg (by omega), if_neg (by omega)]; refine QW [_] rfl (QQ J QX) J J
theorem goCompare : InGo Tryz.prog 174 := InGo.of Tryz.func174 (by kernel_rfl) (by kernel_rfl)
set_option maxHeartbeats 2000000 in
theorem From_ok (n : Nat) (hn : n < 9223372036854775808) : Ok Tryz.prog 139 [intC n] (.fr (tupT [natC n, intC 0])) := by
  refine Ok.enter Tryz.func139 rfl _ Tryz.ntmps139 rfl ?_
  intro S w
  (refine Qy (Qq fun K hK => ?_); refine Qv rfl rfl rfl ?_; refine Qv rfl rfl rfl ?_; refine Qj (hK _ _ ?_); refine Qx (Qy (Qy (Qq fun K hK => ?_))); refine Qz rfl rfl rfl ?_; refine Qk ilss rfl rfl rfl rfl ?_; refine Qj (hK _ _ ?_); refine Qx (Xy rfl (Q0 (Qx (Qy (Qq fun K hK => ?_))))); refine Qv rfl rfl rfl ?_; refine Qj (hK _ _ ?_); refine Qx (Qy (Q2 ?_)))
  refine Xg 4 0 3 1 rfl rfl rfl ?_
  refine Xz (α := Nat × List Int) (fun s => s.1 ≤ n ∧ limbs n = s.2 ++ limbs s.1)
    (fun s => [(0, .ct (intC s.1)), (4, .own 0)]) (fun s => [(0, .row 3 1 (ints s.2))]) (fun s => s.1) (n, []) ⟨Nat.le_refl _, rfl⟩ (by exact Qu rfl ⟨rfl, rfl, trivial⟩) ?_
  rintro ⟨m, zs⟩ ⟨hm, hv⟩
  dsimp only at hm hv ⊢
  have hl : zs.length ≤ 64 := by
    have h1 := congrArg List.length hv
    have h2 := Xv (n := n) (k := 3) (by omega)
    simp at h1; omega
  (refine Qy (Qy (Qq fun K hK => ?_)); refine Qz rfl rfl rfl ?_; refine Qk igtr rfl rfl rfl rfl ?_; refine Qj (hK _ _ ?_); refine Qx ?_)
  refine Q1 rfl (fun h => ?_) (fun h => ?_)
  · (refine Q0 (Qx (Qy (Q2 (Qq fun K hK => ?_)))); refine Qz rfl rfl rfl ?_; refine Qz rfl rfl rfl ?_; refine Qk iand30 rfl rfl rfl rfl ?_)
    refine Zz rfl rfl sNat rfl rfl rfl ?_
    refine Xk zs.length (ints (zs ++ [(m : Int) % 1073741824])) rfl rfl rfl rfl sNat (by simp) rfl (by omega) (by omega) (by simp [ints]) rfl ?_
    (refine Qv rfl rfl rfl ?_; refine Qj (hK _ _ ?_); refine Qx (Qq fun K hK => ?_); refine Qz rfl rfl rfl ?_; refine Qk ishr30 rfl rfl rfl rfl ?_; refine Qv rfl rfl rfl ?_; refine Qj (hK _ _ ?_); refine Q4 ?_)
    refine Q9 (m / 1073741824, zs ++ [(m : Int) % 1073741824]) (by dsimp only; omega) ⟨by dsimp only; omega, ?_⟩ ?_
    all_goals dsimp only
    · rw [hv, limbs_pos (n := m) (by omega)]; simp
    · exact Qu rfl ⟨by rw [Int.natCast_ediv]; rfl, rfl, trivial⟩
  · have : m = 0 := by omega
    subst this
    rw [limbs_zero, List.append_nil] at hv
    subst hv
    refine Z4 0 _ rfl (Xc _ _) XW ?_
    (refine Qo (Qx (Qy (Qq fun K hK => ?_))); refine Qz rfl rfl rfl ?_; refine Qv rfl rfl rfl ?_; refine Qv rfl rfl rfl ?_; refine Qj (hK _ _ ?_); refine Qx (QU ?_))
    refine QW [_, _] rfl (QQ rfl (QQ rfl QX)) rfl rfl
theorem goFrom : InGo Tryz.prog 139 := InGo.of Tryz.func139 (by kernel_rfl) (by kernel_rfl)
end Go.Proofs.YtlkdkbdgnjcopaaGreat
namespace Go.Limbs
theorem val_set {xs : List Int} {p : Nat} (h : p < xs.length) (v : Int) : val (xs.set p v) = val xs + (v - xs.getD p 0) * BB ^ p := by
  induction xs generalizing p with
  | nil => simp at h
  | cons x xs ih =>
    cases p with
    | zero => simp [val]; omega
    | succ p =>
      have := ih (p := p) (by simpa using h); simp only [List.set_cons_succ, val, this, List.getD_cons_succ, Int.pow_succ]
      grind
theorem getD_set {xs : List Int} {p j : Nat} (h : p < xs.length) (v : Int) : (xs.set p v).getD j 0 = if p = j then v else xs.getD j 0 := by
  simp only [List.getD_eq_getElem?_getD, List.getElem?_set]; by_cases hp : p = j
  · subst hp; simp [h]
  · simp [hp]
theorem mul_bd {x y : Int} (hx : 0 ≤ x ∧ x < BB) (hy : 0 ≤ y ∧ y < BB) : 0 ≤ x * y ∧ x * y ≤ 1152921502459363329 := by
  simp only [BB] at hx hy; refine ⟨Int.mul_nonneg hx.1 hy.1, ?_⟩; have h1 : x * y ≤ 1073741823 * 1073741823 := Int.mul_le_mul (by omega) (by omega) hy.1 (by omega); omega
theorem limbs_mul_len {a b : Nat} : (limbs (a * b)).length ≤ (limbs a).length + (limbs b).length := by
  apply Xv
  rw [Nat.pow_add]; exact Nat.mul_lt_mul'' (XU (Nat.le_refl _)) (XU (Nat.le_refl _))
end Go.Limbs
namespace Go.Proofs.YtlkdkbdgnjcopaaGreat
open Go.Own Go.Limbs
attribute [local irreducible] St Ops Go.Own.Fin Ok
theorem top_step {A : List Int} {i : Nat} {vo rest b : Int} (hv : vo * b + rest * BB ^ (i + 1) = val A - pre A (i + 1)) :
    (vo + (rest * 1073741824 + A.getD i 0) / b * BB ^ i) * b + (rest * 1073741824 + A.getD i 0) % b * BB ^ i = val A - pre A i := by
  rw [Xa, Int.pow_succ] at hv; have e := Int.mul_ediv_add_emod (rest * 1073741824 + A.getD i 0) b; simp only [BB] at *; generalize (rest * 1073741824 + A.getD i 0) / b = q at *; generalize (rest * 1073741824 + A.getD i 0) % b = m at *
  grind
set_option maxHeartbeats 2000000 in
theorem small_ok (a : Nat) (b : Int) (hb : 0 < b) (hb2 : b < BB) (hl : (limbs a).length ≤ 256) : Ok Tryz.prog 175 [natC a, intC b] (.fr (tupT [natC ((a : Int) / b).toNat, intC ((a : Int) % b)])) := by
  simp only [BB] at hb2
  refine Ok.enter Tryz.func175 J _ Tryz.ntmps175 J ?_
  intro S w; refine Qy (Qq fun K hK => ?_); refine Qv J J J (Qv J J J (Qj (hK _ _ ?_))); refine Qx (Qy (Qq fun K hK => ?_)); refine Qz J J J (Qd J J sNat.und (List.length_map ..) J (Ops.make 0 (limbs a).length J J J J sNat (by omega) (by omega) J J J ?_)); rw [ints_made]; refine Qv J J J (Qj (hK _ _ ?_)); refine Qx (Qy (Qq fun K hK => ?_)); refine Qv J J J (Qj (hK _ _ ?_)); refine Qx (Qy (Qy (Qq fun K hK => ?_))); refine Qz J J J (Qd J J sNat.und (List.length_map ..) J (Qk (isub (by omega) (by omega)) J J J J ?_)); refine Qv J J J (Qj (hK _ _ ?_)); refine Qx (Q2 ?_)
  refine Xz (α := Nat × List Int × Int) (fun s => s.1 ≤ (limbs a).length ∧ s.2.1.length = (limbs a).length ∧ OKL s.2.1 ∧ (∀ j, j < s.1 → s.2.1.getD j 0 = 0) ∧ 0 ≤ s.2.2 ∧ s.2.2 < b ∧ val s.2.1 * b + s.2.2 * BB ^ s.1 = val (limbs a) - pre (limbs a) s.1)
    (fun s => [(0, .ct (natC a)), (1, .ct (intC b)), (6, .own 0), (7, .ct (intC s.2.2)), (8, .ct (intC ((s.1 : Int) - 1)))])
    (fun s => [(0, .row 3 1 (ints s.2.1))]) (fun s => s.1) ((limbs a).length, List.replicate (limbs a).length 0, 0) ⟨Nat.le_refl _, by simp, OKL.zeros _, ?_, Int.le_refl _, hb, ?_⟩ (by exact Qu J ⟨rfl, rfl, rfl, rfl, rfl, trivial⟩) ?_
  · intro j _; simp [List.getD_eq_getElem?_getD, List.getElem?_replicate]; split <;> rfl
  · dsimp only; rw [val_zeros, Z7 (Nat.le_refl _)]; simp
  rintro ⟨q, zs, rest⟩ ⟨hq, hzl, hok, hz, hr0, hr1, hv⟩
  dsimp only at hq hzl hok hz hr0 hr1 hv ⊢; refine Qy (Qy (Qq fun K hK => ?_)); refine Qz J J J (Qk igeq J J J J (Qj (hK _ _ ?_))); refine Qx (Q1 J (fun h => ?_) (fun h => ?_))
  · obtain ⟨i, rfl⟩ : ∃ i, q = i + 1 := ⟨q - 1, by omega⟩
    have e1 : (((i + 1 : Nat) : Int) - 1) = (i : Int) := by omega
    have e2 : (i : Int).toNat = i := Int.toNat_natCast i
    have e3 : (i : Int).toNat * 1 = i := by omega
    have bx := (X2 a).get i; simp only [BB] at bx; rw [e1]; refine Q0 (Qx (Qy (Q2 (Qy (Qq fun K hK => ?_))))); refine Qz J J J (Qk (ishl30 (by omega) (by omega)) J J J J ?_); refine Qz J J J (Qz J J J (Qm J J J sNat (by omega) (XV (by omega) (by omega)) J ?_))
    refine Xx J J J lInt J ?_
    rw [e2]
    refine Qk (ior30 (by omega) (by omega) (by omega) (by omega)) J J J J ?_
    refine Qv J J J (Qj (hK _ _ ?_)); refine Qx (XJ mixed 9 (.p 0 (.p 1 (.p 2 (.p 3 (.p 4 (.p 5 (.p 6 (.p 7 (.p 8 (.a 9 (.p 10 .done))))))))))) (by kernel_rfl) (fun K hK => ?_)); refine Qz J J J (Qz J J J (Qz J J J (Qz J J J (Qk (iquo (by omega) (by omega) (by omega)) J J J J ?_)))); refine Qz J J J (Qz J J J (Qk (irem (by omega) (by omega)) J J J J ?_)); skip
    refine ZQ (limbs a).length J J J (by simp; omega) J sNat (by omega) (by omega) J ?_
    rw [e3]
    refine Zx J J J J J zInt (by simp [Ent.cs]; omega) ?_
    simp only [Ent.setc, ints_set]; refine Qv J J J (Qj (hK _ _ ?_)); refine Qx (Qq fun K hK => ?_); refine Qz J J J (Qk (isub (by omega) (by omega)) J J J J ?_); refine Qv J J J (Qj (hK _ _ ?_))
    refine Q4 ?_
    have d1 : 0 ≤ (rest * 1073741824 + (limbs a).getD i 0) / b := Int.ediv_nonneg (by omega) (by omega)
    have d2 : (rest * 1073741824 + (limbs a).getD i 0) / b < 1073741824 := by
      apply Int.ediv_lt_of_lt_mul hb
      have : (rest + 1) * 1073741824 ≤ b * 1073741824 := Int.mul_le_mul_of_nonneg_right (by omega) (by decide); rw [Int.mul_comm 1073741824 b]; omega
    have d3 := Int.emod_nonneg (rest * 1073741824 + (limbs a).getD i 0) (b := b) (by omega); have d4 := Int.emod_lt_of_pos (rest * 1073741824 + (limbs a).getD i 0) hb; refine Q9 (i, zs.set i ((rest * 1073741824 + (limbs a).getD i 0) / b), (rest * 1073741824 + (limbs a).getD i 0) % b) (by dsimp only; omega) ⟨by dsimp only; omega, by simp [hzl], ?_, ?_, d3, d4, ?_⟩ (by exact Qu J ⟨rfl, rfl, rfl, rfl, rfl, trivial⟩)
    all_goals dsimp only
    · exact hok.set _ (by simp only [BB]; omega)
    · intro j hj; rw [getD_set (by omega), if_neg (by omega)]; exact hz j (by omega)
    · rw [val_set (by omega), hz i (by omega), Int.sub_zero]; exact top_step hv
  · have hq0 : q = 0 := by omega
    subst hq0
    have e4 : val zs * b + rest = a := by rw [ZJ, Xp] at hv; simpa using hv
    have e5 : (a : Int) / b = val zs ∧ (a : Int) % b = rest := by
      rw [← e4]; constructor
      · rw [Int.add_comm, Int.add_mul_ediv_right _ _ (by omega), Int.ediv_eq_zero_of_lt hr0 hr1]; omega
      · rw [Int.add_comm, Int.add_mul_emod_self_right, Int.emod_eq_of_lt hr0 hr1]
    rw [e5.1, e5.2]; refine Qo (Qx (Qy (Qq fun K hK => ?_))); refine Qz J J J (Xs 0 _ J (Xc _ _) XW (QZ gotrim (trim_ok _ (by omega)) J J J J ?_)); rw [Zk hok]; refine Qz J J J (Qv J J J (Qv J J J (Qj (hK _ _ ?_)))); refine Qx (QU ?_); refine QW [_, _] rfl (QQ J (QQ J QX)) J J
theorem gosmall : InGo Tryz.prog 175 := InGo.of Tryz.func175 (by kernel_rfl) (by kernel_rfl)
theorem ints_ones (xs : List Int) : ones (xs.map intC) = true := by
  induction xs with
  | nil => rfl
  | cons x xs ih => simp [ones, CT.one, Value.oneCell', ih]
theorem Clone_ok (xs : List Int) (hl : xs.length ≤ 1000000) : Ok Tryz.prog 172 [intsC xs] (intsC xs) := by
  refine Ok.enter Tryz.func172 J _ Tryz.ntmps172 J ?_
  intro S w; refine Qy (Qq fun K hK => ?_); refine Qv J J J (Qj (hK _ _ ?_)); refine Qx (Qy (Qy (Qq fun K hK => ?_))); refine Qz J J J (Ops.eqNil J J sNat.und J (fun b hb => ?_)); refine Qj (hK _ _ ?_); refine Qx (XK J (fun h => ?_) (fun h => ?_))
  · have h0 := hb h
    have : xs = [] := by simpa using h0
    subst this; refine Qy (Qq fun K hK => ?_); refine Qv J J J (Qj (hK _ _ ?_)); refine Qx (QU (QV ?_)); refine QW [_] rfl (AllRes.nilS 1 J QX) J J
  · clear hb h; refine Q0 (Qx (Qy (Qq fun K hK => ?_))); refine Ops.lit0E 0 J J J sNat J J J (Qz J J J (Ops.append 0 (ints xs) J J J J sNat J ?_ (by simp; omega) (by simp; omega) ?_ J ?_))
    · rw [flat_one]; exact ints_ones xs
    · rw [flat_one]; rfl
    refine Qv J J J (Qj (hK _ _ ?_)); refine Qx (QU ?_); refine Fin.freeze 0 _ J (Xc _ _) XW (QW [_] rfl (QQ J QX) J J)
theorem goClone : InGo Tryz.prog 172 := InGo.of Tryz.func172 (by kernel_rfl) (by kernel_rfl)
theorem natC_zero : natC 0 = intsC [] := by show intsC (limbs 0) = intsC []; rw [limbs_zero]
theorem Zq {b : Nat} (h0 : 0 < b) (h : b < 1073741824) : limbs b = [(b : Int)] := by
  rw [limbs_pos (by omega), Nat.mod_eq_of_lt h, Nat.div_eq_of_lt h, limbs_zero]
set_option maxHeartbeats 2000000 in
theorem DivMod_small (a b : Nat) (h0 : 0 < b) (hb : b < 1073741824) (hl : (limbs a).length ≤ 256) : Ok Tryz.prog 138 [natC a, natC b] (.fr (tupT [natC (a / b), natC (a % b), intC 0])) := by
  have hlb : (limbs b).length = 1 := by rw [Zq h0 hb]; rfl
  refine Ok.enter Tryz.func138 J _ Tryz.ntmps138 J ?_
  intro S w; refine Qy (Qq fun K hK => ?_); refine Qv J J J (Qv J J J (Qv J J J (Qj (hK _ _ ?_)))); refine Qx (Qy (Qq fun K hK => ?_)); refine Qz J J J (QZ gotrim (trim_ok _ (by omega)) J J J J ?_); rw [trim_of_limbs]; refine Qv J J J (Qj (hK _ _ ?_)); refine Qx (Qy (Qq fun K hK => ?_)); refine Qz J J J (Qd J J sNat.und (List.length_map ..) J (Qv J J J (Qj (hK _ _ ?_)))); refine Qx (Qy (Q2 (Qy (Qq fun K hK => ?_)))); refine Qz J J J (Qk ieql J J J J (Qv J J J (Qj (hK _ _ ?_)))); refine Qx (Q1 J (fun h => ?_) (fun h => ?_))
  · omega
  clear h; refine Qy (Qq fun K hK => ?_); refine Qz J J J (Qz J J J (QZ goCompare (Compare_ok a b (by omega) (by omega)) J J J J ?_)); refine Qk ilss J J J J (Qv J J J (Qj (hK _ _ ?_))); refine Qx (Q1 J (fun h => ?_) (fun h => ?_))
  · have hlt : a < b := by
      rw [X4] at h; split at h
      · omega
      · split at h <;> omega
    refine Qy (Qq fun K hK => ?_); refine Qz J J J (QZ goClone (Clone_ok _ (by omega)) J J J J ?_); refine Qv J J J (Qv J J J (Qv J J J (Qj (hK _ _ ?_)))); refine Qx (QU (Q5 (QV ?_))); rw [Nat.div_eq_of_lt hlt, Nat.mod_eq_of_lt hlt, natC_zero]; refine QW [_, _, _] rfl (AllRes.nilS 1 J (QQ J (QQ J QX))) J J
  clear h; refine Qy (Qq fun K hK => ?_); refine Qz J J J (Qk ieql J J J J (Qv J J J (Qj (hK _ _ ?_)))); refine Qx (Q1 J (fun h => ?_) (fun h => ?_))
  · have e0 : (limbs b).getD (0 : Int).toNat 0 = b := by rw [Zq h0 hb]; rfl
    refine Qy (Qq fun K hK => ?_); refine Qz J J J (Qz J J J (Qm J J J sNat (by omega) (XV (by omega) (by omega)) J ?_))
    refine Xx J J J lInt J ?_
    rw [e0]
    refine QZ gosmall (small_ok a b (by omega) (by simp only [BB]; omega) hl) J J J J ?_
    have e1 : ((a : Int) / (b : Int)).toNat = a / b := by rw [← Int.natCast_ediv, Int.toNat_natCast]
    rw [e1]; refine Qz J J J (Qa J J J J (Qa J J J J (Qv J J J (Qv J J J (Qj (hK _ _ ?_)))))); refine Qx (Qy (Qq fun K hK => ?_)); refine Qz J J J (Qz J J J (Zz J J sNat J J J (QZ gotrim (trim_ok [(a : Int) % b] (by simp)) J J J J ?_)))
    have e2 : trimL [(a : Int) % b] = limbs (a % b) := by
      have hm := Nat.mod_lt a h0; rw [Zk (OKL.cons (by simp only [BB]; omega) OKL.nil)]; simp only [val]; congr 1
    rw [e2]; refine Qv J J J (Qv J J J (Qv J J J (Qj (hK _ _ ?_)))); refine Qx (QU (Q5 (QV ?_))); refine QW [_, _, _] rfl (QQ J (QQ J (QQ J QX))) J J
  · omega
theorem goDivMod : InGo Tryz.prog 138 := InGo.of Tryz.func138 (by kernel_rfl) (by kernel_rfl)
set_option maxHeartbeats 2000000 in
theorem Gcd_small (a b : Nat) (hb : b < 1073741824) (hl : (limbs a).length ≤ 256) : Ok Tryz.prog 137 [natC a, natC b] (natC (Nat.gcd a b)) := by
  have hlb : (limbs b).length ≤ 1 := Xv (k := 1) (by omega)
  refine Ok.enter Tryz.func137 J _ Tryz.ntmps137 J ?_
  intro S w; refine Qy (Qq fun K hK => ?_); refine Qv J J J (Qj (hK _ _ ?_)); refine Qx (Qy (Qy (Qq fun K hK => ?_))); refine Qz J J J (QZ goClone (Clone_ok _ (by omega)) J J J J ?_); refine Qz J J J (QZ goClone (Clone_ok _ (by omega)) J J J J ?_); refine Qv J J J (Qv J J J (Qj (hK _ _ ?_))); refine Qx (Q2 ?_)
  refine Xz (α := Nat × Nat) (fun s => s.2 < 1073741824 ∧ (limbs s.1).length ≤ 256 ∧ Nat.gcd s.1 s.2 = Nat.gcd a b)
    (fun s => [(0, .ct (natC s.1)), (1, .ct (natC s.2))]) (fun _ => []) (fun s => s.2) (a, b) ⟨hb, hl, rfl⟩ (by exact Qu J ⟨rfl, rfl, trivial⟩) ?_
  rintro ⟨p, q⟩ ⟨hq, hp, hg⟩
  dsimp only at hq hp hg ⊢; refine Qy (Qy (Qq fun K hK => ?_)); refine Qz J J J (Qd J J sNat.und (List.length_map ..) J (Qk igtr J J J J (Qj (hK _ _ ?_)))); refine Qx (Q1 J (fun h => ?_) (fun h => ?_))
  · have hq0 : 0 < q := by
      rcases Nat.eq_zero_or_pos q with h0 | h0
      · subst h0; rw [limbs_zero] at h; simp at h
      · exact h0
    refine Q0 (Qx (Q2 (Qy (Qq fun K hK => ?_)))); refine Qz J J J (Qz J J J (QZ goDivMod (DivMod_small p q hq0 hq hp) J J J J (Qz J J J (Qa J J J J (Qa J J J J (Qa J J J J (Qv J J J (Qv J J J (Qv J J J (Qj (hK _ _ ?_))))))))))); refine Qx (Qy (Qy (Qq fun K hK => ?_))); refine Qz J J J (Qk ineq J J J J (Qj (hK _ _ ?_))); refine Qx (Xy J (Q0 (Qx (Qq fun K hK => ?_)))); refine Qz J J J (Qz J J J (Qv J J J (Qv J J J (Qj (hK _ _ ?_))))); refine Q3 (Q4 ?_); have hm := Nat.mod_lt p hq0; refine Q9 (q, p % q) hm ⟨by dsimp only; omega, ?_, ?_⟩ (by exact Qu J ⟨rfl, rfl, trivial⟩)
    · have := Xv (n := q) (k := 1) (by omega); dsimp only; omega
    · dsimp only; rw [← hg, Nat.gcd_comm, ← Nat.gcd_rec, Nat.gcd_comm]
  · have hq0 : q = 0 := Z5 (List.eq_nil_of_length_eq_zero (by omega))
    have e : p = Nat.gcd a b := by rw [← hg, hq0, Nat.gcd_zero_right]
    rw [← e]; refine Qo (Qx (Qy (Qq fun K hK => ?_))); refine Qz J J J (Qv J J J (Qj (hK _ _ ?_))); refine Qx (QU ?_); refine QW [_] rfl (QQ J QX) J J
theorem goGcd : InGo Tryz.prog 137 := InGo.of Tryz.func137 (by kernel_rfl) (by kernel_rfl)
end Go.Proofs.YtlkdkbdgnjcopaaGreat
namespace Go.Proofs.YtlkdkbdgnjcopaaGreat
open Go.Own Go.Limbs
theorem uBool : Tryz.prog.underlying 4 = some .bool := Tryz.underlying4
theorem zvFrac : (Tryz.prog.info? 53).map (·.zero) = some (some (.agg #[.bool false, .slice none 0 0, .slice none 0 0])) := by kernel_rfl
theorem fF0 : fldInfo Tryz.prog 53 0 = some (0, some 1) := by kernel_rfl
theorem fF1 : fldInfo Tryz.prog 53 1 = some (1, some 1) := by kernel_rfl
theorem fF2 : fldInfo Tryz.prog 53 2 = some (2, some 1) := by kernel_rfl
theorem ZU : LdN Tryz.prog 53 3 := LdN.of _ Tryz.underlying53 rfl (by kernel_rfl)
theorem szFrac : (Tryz.prog.info? 53).map (·.size) = some 3 := by kernel_rfl
theorem bFrac : bInfo Tryz.prog 53 = some (.agg #[.bool false, .slice none 0 0, .slice none 0 0], [(0, some 1), (1, some 1), (2, some 1)]) := by kernel_rfl
structure Fr where
  neg : Bool
  num : Nat
  den : Nat
abbrev frCs (f : Fr) : List CT := [boolC f.neg, natC f.num, natC f.den]
abbrev fracC (f : Fr) : CT := .fr (aggT (frCs f))
abbrev fracsC (fs : List Fr) : CT := .fr (sliceT 3 (fs.map frCs))
abbrev frac0 : CT := .fr (aggT [boolC false, .ex (.slice none 0 0), .ex (.slice none 0 0)])
attribute [local irreducible] Go.Own.Fin Ok Ops St
theorem limbs_len_pos {n : Nat} : 0 < (limbs n).length ↔ n ≠ 0 := by
  constructor
  · intro h h0; subst h0; rw [limbs_zero] at h; simp at h
  · intro h; rw [limbs_pos h]; simp
theorem limbs_len_posI {n : Nat} : decide ((limbs n).length > (0 : Int)) = decide (n ≠ 0) := by
  rw [decide_eq_decide, ← limbs_len_pos]; omega
theorem goAdd : InGo Tryz.prog 140 := InGo.of Tryz.func140 (by kernel_rfl) (by kernel_rfl)
set_option maxHeartbeats 2000000 in
theorem magnitude_ok (n : Int) (h1 : -9223372036854775808 ≤ n) (h2 : n ≤ 9223372036854775807) : Ok Tryz.prog 101 [intC n] (natC n.natAbs) := by
  refine Ok.enter Tryz.func101 rfl _ Tryz.ntmps101 rfl ?_
  intro S w
  (refine Qy (Qq fun K hK => ?_); refine Qv rfl rfl rfl ?_; refine Qj (hK _ _ (Qx (Qy (Qy ?_)))); clear hK K; refine Qq (fun K hK => ?_); refine Qz rfl rfl rfl ?_; refine Qk ineq rfl rfl rfl rfl ?_; refine Qj (hK _ _ (Qx ?_)); clear hK K)
  refine Q1 rfl (fun h => ?_) (fun h => ?_)
  · (refine Qy (Qq fun K hK => ?_); refine Qz rfl rfl rfl ?_; refine Qz rfl rfl rfl ?_)
    refine Ops.ineg rfl rfl (by omega) (by omega) rfl ?_
    (refine Ops.max2 rfl rfl rfl rfl ?_; refine Qv rfl rfl rfl ?_; refine Qj (hK _ _ (Qx (Qy ?_))); clear hK K; refine Qq (fun K hK => ?_); refine Qz rfl rfl rfl ?_)
    rw [show max n (-n) = (n.natAbs : Int) by omega]
    refine QZ goFrom (From_ok n.natAbs (by omega)) rfl rfl rfl rfl ?_
    (refine Qz rfl rfl rfl ?_; refine Qa rfl rfl rfl rfl ?_; refine Qa rfl rfl rfl rfl ?_; refine Qv rfl rfl rfl ?_; refine Qv rfl rfl rfl ?_; refine Qj (hK _ _ (Qx (Qy ?_))); clear hK K; refine Qq (fun K hK => ?_); refine Qz rfl rfl rfl ?_; refine Qv rfl rfl rfl ?_; refine Qj (hK _ _ (Qx (QU (QV ?_)))); clear hK K)
    refine QW [_] rfl (QQ rfl QX) rfl rfl
  · (refine Q0 (Qx (Qy (Qq fun K hK => ?_))))
    refine QZ goFrom (From_ok 4611686018427387904 (by omega)) rfl rfl rfl rfl ?_
    (refine Qz rfl rfl rfl ?_; refine Qa rfl rfl rfl rfl ?_; refine Qa rfl rfl rfl rfl ?_; refine Qv rfl rfl rfl ?_; refine Qv rfl rfl rfl ?_; refine Qj (hK _ _ (Qx (Qy ?_))); clear hK K; refine Qq (fun K hK => ?_); refine Qz rfl rfl rfl ?_; refine Qz rfl rfl rfl ?_)
    refine QZ goAdd (Add_list _ _ ?_ ?_ (X2 _) (X2 _)) rfl rfl rfl rfl ?_
    · exact Nat.le_trans (Xv (k := 3) (by decide)) (by decide)
    · exact Nat.le_trans (Xv (k := 3) (by decide)) (by decide)
    rw [Xp]
    (refine Qz rfl rfl rfl ?_; refine Qa rfl rfl rfl rfl ?_; refine Qa rfl rfl rfl rfl ?_; refine Qv rfl rfl rfl ?_; refine Qv rfl rfl rfl ?_; refine Qj (hK _ _ (Qx (Qy ?_))); clear hK K; refine Qq (fun K hK => ?_); refine Qz rfl rfl rfl ?_; refine Qv rfl rfl rfl ?_; refine Qj (hK _ _ (Qx (QU ?_))); clear hK K)
    refine QW [_] rfl (QQ rfl QX) (by congr 1; have : n.natAbs = 9223372036854775808 := by omega
                                      rw [this]; rfl) rfl
theorem gomagnitude : InGo Tryz.prog 101 := InGo.of Tryz.func101 (by kernel_rfl) (by kernel_rfl)
def sumN (n1 : Bool) (a : Nat) (n2 : Bool) (b : Nat) : Nat := if n1 = n2 then a + b else if a < b then b - a else a - b
def sumS (n1 : Bool) (a : Nat) (n2 : Bool) (b : Nat) : Bool := if n1 = n2 then n1 else if a < b then n2 else n1
def redF (neg : Bool) (a b : Nat) : Fr := ⟨neg && decide (a / Nat.gcd a b ≠ 0), a / Nat.gcd a b, b / Nat.gcd a b⟩
set_option maxHeartbeats 2000000 in
theorem reduced_small (neg : Bool) (a b : Nat) (h0 : 0 < b) (hb : b < 1073741824) (hl : (limbs a).length ≤ 256) : Ok Tryz.prog 100 [boolC neg, natC a, natC b] (fracC (redF neg a b)) := by
  have hg0 : 0 < Nat.gcd a b := Nat.gcd_pos_of_pos_right _ h0
  have hg1 : Nat.gcd a b ≤ b := Nat.gcd_le_right _ h0
  have hlb : (limbs b).length ≤ 1 := Xv (k := 1) (by omega)
  refine Ok.enter Tryz.func100 rfl _ Tryz.ntmps100 rfl ?_
  intro S w
  have e0 : redF neg a b = ⟨neg && decide (a / Nat.gcd a b ≠ 0), a / Nat.gcd a b, b / Nat.gcd a b⟩ := rfl
  rw [e0]
  clear e0
  have h1 := Gcd_small a b hb hl
  generalize Nat.gcd a b = g at *
  (refine Qy (Qq fun K hK => ?_); refine Qi 0 rfl rfl (by with_reducible exact zvFrac) rfl rfl rfl ?_; refine Qj (hK _ _ (Qx (Qy ?_))); clear hK K; refine Qq (fun K hK => ?_); refine Qz rfl rfl rfl ?_; refine Qz rfl rfl rfl ?_)
  refine QZ goGcd h1 rfl rfl rfl rfl ?_
  (refine Qv rfl rfl rfl ?_; refine Qj (hK _ _ (Qx (Qy ?_))); clear hK K; refine Qq (fun K hK => ?_); refine Qz rfl rfl rfl ?_; refine Qz rfl rfl rfl ?_)
  refine QZ goDivMod (DivMod_small a g hg0 (by omega) hl) rfl rfl rfl rfl ?_
  (refine Qz rfl rfl rfl ?_; refine Qa rfl rfl rfl rfl ?_; refine Qa rfl rfl rfl rfl ?_; refine Qa rfl rfl rfl rfl ?_; refine Qv rfl rfl rfl ?_; refine Qv rfl rfl rfl ?_; refine Qv rfl rfl rfl ?_; refine Qj (hK _ _ (Qx (Qy ?_))); clear hK K; refine Qq (fun K hK => ?_); refine Qz rfl rfl rfl ?_; refine Qz rfl rfl rfl ?_)
  refine QZ goDivMod (DivMod_small b g hg0 (by omega) (by omega)) rfl rfl rfl rfl ?_
  (refine Qz rfl rfl rfl ?_; refine Qa rfl rfl rfl rfl ?_; refine Qa rfl rfl rfl rfl ?_; refine Qa rfl rfl rfl rfl ?_; refine Qv rfl rfl rfl ?_; refine Qv rfl rfl rfl ?_; refine Qv rfl rfl rfl ?_; refine Qj (hK _ _ (Qx (Qy ?_))); clear hK K; refine Qq (fun K hK => ?_); refine Qz rfl rfl rfl ?_; refine Qz rfl rfl rfl ?_)
  refine ZZ 32 rfl (fun h => ?_) (fun h => ?_)
  · (refine Qz rfl rfl rfl ?_; refine Qd rfl rfl (by with_reducible exact sNat.und) (List.length_map ..) rfl ?_; refine Qk igtr rfl rfl rfl rfl ?_; refine QK rfl rfl rfl rfl ?_; refine Qz rfl rfl rfl ?_; refine Qz rfl rfl rfl ?_)
    refine Qn rfl (by with_reducible exact bFrac) rfl (.one rfl rfl rfl rfl (.one rfl rfl rfl rfl (.one rfl rfl rfl rfl .nil))) rfl ?_
    (refine Qb 3 rfl rfl rfl rfl rfl (by with_reducible exact szFrac) rfl rfl ?_; refine Qj (hK _ _ (Qx (QU ?_))); clear hK K)
    refine QW [_] rfl (Qg (n := 3) rfl rfl (by with_reducible exact ZU) rfl QX) (by rw [← limbs_len_posI, h]; rfl) rfl
  · (refine Qw rfl rfl rfl ?_; refine Qw rfl rfl rfl ?_; refine Qw rfl rfl rfl ?_; refine Q6 rfl rfl rfl rfl ?_; refine Qz rfl rfl rfl ?_; refine Qz rfl rfl rfl ?_)
    refine Qn rfl (by with_reducible exact bFrac) rfl (.one rfl rfl rfl rfl (.one rfl rfl rfl rfl (.one rfl rfl rfl rfl .nil))) rfl ?_
    (refine Qb 3 rfl rfl rfl rfl rfl (by with_reducible exact szFrac) rfl rfl ?_; refine Qj (hK _ _ (Qx (QU ?_))); clear hK K)
    refine QW [_] rfl (Qg (n := 3) rfl rfl (by with_reducible exact ZU) rfl QX) (by rw [h]; rfl) rfl
theorem goreduced : InGo Tryz.prog 100 := InGo.of Tryz.func100 (by kernel_rfl) (by kernel_rfl)
end Go.Proofs.YtlkdkbdgnjcopaaGreat
namespace Go.Proofs.YtlkdkbdgnjcopaaGreat
open Go.Own Go.Limbs
def sg (n : Bool) (a : Nat) : Int := if n then -(a : Int) else a
def ofQ (q : Rat) : Fr := ⟨decide (q.num < 0), q.num.natAbs, q.den⟩
abbrev ratC (q : Rat) : CT := fracC (ofQ q)
theorem natAbs_sg (n : Bool) (a : Nat) : (sg n a).natAbs = a := by unfold sg; split <;> omega
theorem redF_q (n : Bool) (a b : Nat) (hb : 0 < b) : redF n a b = ofQ (mkRat (sg n a) b) := by
  have hb' : b ≠ 0 := by omega
  have hg : 0 < Nat.gcd a b := Nat.gcd_pos_of_pos_right _ hb; rw [Rat.mkRat_def, dif_neg hb', Rat.normalize_eq]; unfold redF ofQ; simp only [natAbs_sg]; have hd : (Nat.gcd a b : Int) ∣ (a : Int) := Int.natCast_dvd_natCast.mpr (Nat.gcd_dvd_left a b)
  have e1 : (sg n a / (Nat.gcd a b : Int)) = sg n (a / Nat.gcd a b) := by
    unfold sg; split
    · rw [Int.neg_ediv_of_dvd hd, Int.natCast_ediv]
    · rw [Int.natCast_ediv]
  rw [e1, natAbs_sg]
  congr 1
  generalize a / Nat.gcd a b = c; unfold sg; cases n
  · simp
  · show (true && decide (c ≠ 0)) = decide (-(c : Int) < 0); rw [Bool.true_and, decide_eq_decide]; omega
theorem from_redF (n d : Int) (hd : d ≠ 0) : redF (decide (n < 0) != decide (d < 0)) n.natAbs d.natAbs = ofQ (Rat.divInt n d) := by
  rw [redF_q _ _ _ (by omega)]
  congr 1
  have e : sg (decide (n < 0) != decide (d < 0)) n.natAbs = if d < 0 then -n else n := by
    unfold sg
    by_cases h1 : n < 0 <;> by_cases h2 : d < 0 <;> simp [h1, h2] <;> omega
  rw [e]; rcases d with d | d
  · rw [if_neg (by simp)]; rfl
  · rw [if_pos (by omega)]; show mkRat (-n) (d + 1) = Rat.normalize (-n) (d + 1) (by omega); rw [Rat.normalize_eq_mkRat]
attribute [local irreducible] Go.Own.Fin Ok Ops St
def Sz (a : Nat) : Prop := (limbs a).length ≤ 30
theorem dne (p q : Bool) : decide (p ≠ q) = (p != q) := by cases p <;> cases q <;> rfl
set_option maxHeartbeats 2000000 in
theorem FFrom_ok (n d : Int) (h1 : -9223372036854775808 ≤ n) (h2 : n ≤ 9223372036854775807) (h3 : -1073741824 < d) (h4 : d < 1073741824) (h0 : d ≠ 0) : Ok Tryz.prog 54 [intC n, intC d] (.fr (tupT [ratC (Rat.divInt n d), intC 0])) := by
  have hl : (limbs n.natAbs).length ≤ 3 := Xv (k := 3) (by omega)
  rw [show ratC (Rat.divInt n d) = fracC (redF (decide (n < 0) != decide (d < 0)) n.natAbs d.natAbs) from by rw [from_redF n d h0]]
  refine Ok.enter Tryz.func54 rfl _ Tryz.ntmps54 rfl ?_
  intro S w
  (refine Qy (Qq fun K hK => ?_); refine Qi 0 rfl rfl (by with_reducible exact zvFrac) rfl rfl rfl ?_; refine Qv rfl rfl rfl ?_; refine Qj (hK _ _ (Qx (Qy (Qy ?_)))); clear hK K; refine Qq (fun K hK => ?_); refine Qz rfl rfl rfl ?_; refine Qk ieql rfl rfl rfl rfl ?_; refine Qj (hK _ _ (Qx ?_)); clear hK K)
  refine Q1 rfl (fun h => absurd h h0) (fun h => ?_)
  (refine Q0 (Qx (Qy (Qq fun K hK => ?_))); refine Qz rfl rfl rfl ?_; refine Qk ilss rfl rfl rfl rfl ?_; refine Qz rfl rfl rfl ?_; refine Qk ilss rfl rfl rfl rfl ?_)
  refine Ops.bne rfl rfl rfl uBool rfl ?_
  rw [dne]
  (refine Qz rfl rfl rfl ?_)
  refine QZ gomagnitude (magnitude_ok n h1 h2) rfl rfl rfl rfl ?_
  (refine Qz rfl rfl rfl ?_)
  refine QZ gomagnitude (magnitude_ok d (by omega) (by omega)) rfl rfl rfl rfl ?_
  refine QZ goreduced (reduced_small _ n.natAbs d.natAbs (by omega) (by omega) (by omega)) rfl rfl rfl rfl ?_
  (refine Qb 3 rfl rfl rfl rfl rfl (by with_reducible exact szFrac) rfl rfl ?_; refine Qv rfl rfl rfl ?_; refine Qj (hK _ _ (Qx (QU ?_))); clear hK K)
  refine QW [_, _] rfl (Qg (n := 3) rfl rfl (by with_reducible exact ZU) rfl (QQ rfl QX)) rfl rfl
theorem goFFrom : InGo Tryz.prog 54 := InGo.of Tryz.func54 (by kernel_rfl) (by kernel_rfl)
attribute [local irreducible] OkB OkF OkL OkM OkN OkT
def frZ : Fr := ⟨false, 0, 0⟩
def rateC (c : Cn) : CT := if c.lo < 0 ∨ c.hi < c.lo ∨ c.se < c.hi ∨ c.se < 1 then .fr (tupT [fracC frZ, fracC frZ, intC 1]) else .fr (tupT [ratC (Rat.divInt c.lo c.se), ratC (Rat.divInt c.hi c.se), intC 0])
theorem goRate : InGo Tryz.prog 19 := InGo.of Tryz.func19 rfl (by decide)
set_option maxHeartbeats 8000000 in
theorem Rate_ok (c : Cn) (h1 : -9223372036854775808 ≤ c.lo ∧ c.lo < 9223372036854775808) (h2 : -9223372036854775808 ≤ c.hi ∧ c.hi < 9223372036854775808) (h3 : -9223372036854775808 ≤ c.se ∧ c.se < 1073741824) : Ok Tryz.prog 19 [cnC c] (rateC c) := by
  have e : rateC c = if c.lo < 0 ∨ c.hi < c.lo ∨ c.se < c.hi ∨ c.se < 1 then .fr (tupT [fracC frZ, fracC frZ, intC 1]) else .fr (tupT [ratC (Rat.divInt c.lo c.se), ratC (Rat.divInt c.hi c.se), intC 0]) := rfl
  generalize rateC c = out at e ⊢
  refine Ok.enter Tryz.func19 rfl _ Tryz.ntmps19 rfl ?_
  intro S w0
  refine Qy ?_
  refine Qq (fun K hK => ?_)
  refine XQ 0 rfl rfl rfl rfl rfl rfl rfl ?_
  refine Qi 1 rfl rfl (by with_reducible exact zvFrac) rfl rfl rfl ?_
  refine Qi 2 rfl rfl (by with_reducible exact zvFrac) rfl rfl rfl ?_
  (refine Qv rfl rfl rfl ?_; refine Qj (hK _ _ (Qx (Qy (Qy ?_)))); clear hK K; refine Qq (fun K hK => ?_); refine QY rfl rfl rfl (by with_reducible first | exact fTk0 | exact fTk1 | exact fTk2 | exact fWr0 | exact fWr1 | exact X6 | exact X7 | exact Xt | exact fStm1 | exact fCn0 | exact fCn1 | exact fCn2 | exact fCn3 | exact fCs0 | exact fCs1) rfl ?_; refine QJ rfl rfl rfl rfl rfl (by with_reducible first | exact lInt | exact Qh | exact Qf | exact lRess) rfl ?_; refine Qk ilss rfl rfl rfl rfl ?_; refine Qz rfl rfl rfl ?_)
  refine Qc 8 rfl (fun g1 => ?_) (fun g1 => ?_)
  · rw [if_pos (.inl g1)] at e
    (refine Qw rfl rfl rfl ?_; refine Qw rfl rfl rfl ?_; refine Qw rfl rfl rfl ?_; refine Qw rfl rfl rfl ?_; refine Qw rfl rfl rfl ?_; refine QK rfl rfl rfl rfl ?_; refine Qz rfl rfl rfl ?_; refine Qw rfl rfl rfl ?_; refine Qw rfl rfl rfl ?_; refine Qw rfl rfl rfl ?_; refine Qw rfl rfl rfl ?_; refine Qw rfl rfl rfl ?_; refine QK rfl rfl rfl rfl ?_; refine Qz rfl rfl rfl ?_; refine Qw rfl rfl rfl ?_; refine Qw rfl rfl rfl ?_; refine Qw rfl rfl rfl ?_; refine QK rfl rfl rfl rfl ?_; refine Qj (hK _ _ (Qx (Qt rfl (Qy ?_)))); clear hK K; refine Qq (fun K hK => ?_))
    refine Qn rfl (by with_reducible exact bFrac) rfl .nil rfl ?_
    refine Qn rfl (by with_reducible exact bFrac) rfl .nil rfl ?_
    refine Qb 3 rfl rfl rfl rfl rfl (by with_reducible exact szFrac) rfl rfl ?_
    refine Qb 3 rfl rfl rfl rfl rfl (by with_reducible exact szFrac) rfl rfl ?_
    (refine Qv rfl rfl rfl ?_; refine Qj (hK _ _ (Qx (QU (QV ?_)))); clear hK K)
    refine QW [_, _, _] rfl (XY (w_agg (ds := [boolC false, intsC [], intsC []]) (by exact ⟨w_same, ZV, ZV, trivial⟩)) (Qg (n := 3) rfl rfl (by with_reducible exact ZU) rfl (XY (w_agg (ds := [boolC false, intsC [], intsC []]) (by exact ⟨w_same, ZV, ZV, trivial⟩)) (Qg (n := 3) rfl rfl (by with_reducible exact ZU) rfl (QQ rfl QX))))) (by rw [e]; show CT.fr (tupT [.fr (aggT [boolC false, intsC (limbs 0), intsC (limbs 0)]), .fr (aggT [boolC false, intsC (limbs 0), intsC (limbs 0)]), intC 1]) = _; rw [limbs_zero]; rfl) rfl
  (refine QY rfl rfl rfl (by with_reducible first | exact fTk0 | exact fTk1 | exact fTk2 | exact fWr0 | exact fWr1 | exact X6 | exact X7 | exact Xt | exact fStm1 | exact fCn0 | exact fCn1 | exact fCn2 | exact fCn3 | exact fCs0 | exact fCs1) rfl ?_; refine QJ rfl rfl rfl rfl rfl (by with_reducible first | exact lInt | exact Qh | exact Qf | exact lRess) rfl ?_; refine QY rfl rfl rfl (by with_reducible first | exact fTk0 | exact fTk1 | exact fTk2 | exact fWr0 | exact fWr1 | exact X6 | exact X7 | exact Xt | exact fStm1 | exact fCn0 | exact fCn1 | exact fCn2 | exact fCn3 | exact fCs0 | exact fCs1) rfl ?_; refine QJ rfl rfl rfl rfl rfl (by with_reducible first | exact lInt | exact Qh | exact Qf | exact lRess) rfl ?_; refine Qk igtr rfl rfl rfl rfl ?_; refine Q6 rfl rfl rfl rfl ?_; refine Qz rfl rfl rfl ?_)
  refine Qc 15 rfl (fun g2 => ?_) (fun g2 => ?_)
  · rw [if_pos (.inr (.inl g2))] at e
    (refine Qw rfl rfl rfl ?_; refine Qw rfl rfl rfl ?_; refine Qw rfl rfl rfl ?_; refine Qw rfl rfl rfl ?_; refine Qw rfl rfl rfl ?_; refine QK rfl rfl rfl rfl ?_; refine Qz rfl rfl rfl ?_; refine Qw rfl rfl rfl ?_; refine Qw rfl rfl rfl ?_; refine Qw rfl rfl rfl ?_; refine QK rfl rfl rfl rfl ?_; refine Qj (hK _ _ (Qx (Qt rfl (Qy ?_)))); clear hK K; refine Qq (fun K hK => ?_))
    refine Qn rfl (by with_reducible exact bFrac) rfl .nil rfl ?_
    refine Qn rfl (by with_reducible exact bFrac) rfl .nil rfl ?_
    refine Qb 3 rfl rfl rfl rfl rfl (by with_reducible exact szFrac) rfl rfl ?_
    refine Qb 3 rfl rfl rfl rfl rfl (by with_reducible exact szFrac) rfl rfl ?_
    (refine Qv rfl rfl rfl ?_; refine Qj (hK _ _ (Qx (QU (QV ?_)))); clear hK K)
    refine QW [_, _, _] rfl (XY (w_agg (ds := [boolC false, intsC [], intsC []]) (by exact ⟨w_same, ZV, ZV, trivial⟩)) (Qg (n := 3) rfl rfl (by with_reducible exact ZU) rfl (XY (w_agg (ds := [boolC false, intsC [], intsC []]) (by exact ⟨w_same, ZV, ZV, trivial⟩)) (Qg (n := 3) rfl rfl (by with_reducible exact ZU) rfl (QQ rfl QX))))) (by rw [e]; show CT.fr (tupT [.fr (aggT [boolC false, intsC (limbs 0), intsC (limbs 0)]), .fr (aggT [boolC false, intsC (limbs 0), intsC (limbs 0)]), intC 1]) = _; rw [limbs_zero]; rfl) rfl
  (refine QY rfl rfl rfl (by with_reducible first | exact fTk0 | exact fTk1 | exact fTk2 | exact fWr0 | exact fWr1 | exact X6 | exact X7 | exact Xt | exact fStm1 | exact fCn0 | exact fCn1 | exact fCn2 | exact fCn3 | exact fCs0 | exact fCs1) rfl ?_; refine QJ rfl rfl rfl rfl rfl (by with_reducible first | exact lInt | exact Qh | exact Qf | exact lRess) rfl ?_; refine QY rfl rfl rfl (by with_reducible first | exact fTk0 | exact fTk1 | exact fTk2 | exact fWr0 | exact fWr1 | exact X6 | exact X7 | exact Xt | exact fStm1 | exact fCn0 | exact fCn1 | exact fCn2 | exact fCn3 | exact fCs0 | exact fCs1) rfl ?_; refine QJ rfl rfl rfl rfl rfl (by with_reducible first | exact lInt | exact Qh | exact Qf | exact lRess) rfl ?_; refine Qk igtr rfl rfl rfl rfl ?_; refine Q6 rfl rfl rfl rfl ?_; refine Qz rfl rfl rfl ?_)
  refine Qc 22 rfl (fun g3 => ?_) (fun g3 => ?_)
  · rw [if_pos (.inr (.inr (.inl g3)))] at e
    (refine Qw rfl rfl rfl ?_; refine Qw rfl rfl rfl ?_; refine Qw rfl rfl rfl ?_; refine QK rfl rfl rfl rfl ?_; refine Qj (hK _ _ (Qx (Qt rfl (Qy ?_)))); clear hK K; refine Qq (fun K hK => ?_))
    refine Qn rfl (by with_reducible exact bFrac) rfl .nil rfl ?_
    refine Qn rfl (by with_reducible exact bFrac) rfl .nil rfl ?_
    refine Qb 3 rfl rfl rfl rfl rfl (by with_reducible exact szFrac) rfl rfl ?_
    refine Qb 3 rfl rfl rfl rfl rfl (by with_reducible exact szFrac) rfl rfl ?_
    (refine Qv rfl rfl rfl ?_; refine Qj (hK _ _ (Qx (QU (QV ?_)))); clear hK K)
    refine QW [_, _, _] rfl (XY (w_agg (ds := [boolC false, intsC [], intsC []]) (by exact ⟨w_same, ZV, ZV, trivial⟩)) (Qg (n := 3) rfl rfl (by with_reducible exact ZU) rfl (XY (w_agg (ds := [boolC false, intsC [], intsC []]) (by exact ⟨w_same, ZV, ZV, trivial⟩)) (Qg (n := 3) rfl rfl (by with_reducible exact ZU) rfl (QQ rfl QX))))) (by rw [e]; show CT.fr (tupT [.fr (aggT [boolC false, intsC (limbs 0), intsC (limbs 0)]), .fr (aggT [boolC false, intsC (limbs 0), intsC (limbs 0)]), intC 1]) = _; rw [limbs_zero]; rfl) rfl
  (refine QY rfl rfl rfl (by with_reducible first | exact fTk0 | exact fTk1 | exact fTk2 | exact fWr0 | exact fWr1 | exact X6 | exact X7 | exact Xt | exact fStm1 | exact fCn0 | exact fCn1 | exact fCn2 | exact fCn3 | exact fCs0 | exact fCs1) rfl ?_; refine QJ rfl rfl rfl rfl rfl (by with_reducible first | exact lInt | exact Qh | exact Qf | exact lRess) rfl ?_; refine Qk ilss rfl rfl rfl rfl ?_; refine Q6 rfl rfl rfl rfl ?_; refine Qj (hK _ _ (Qx ?_)); clear hK K)
  refine Q1 rfl (fun g4 => ?_) (fun g4 => ?_)
  · rw [if_pos (.inr (.inr (.inr g4)))] at e
    (refine Qy (Qq fun K hK => ?_))
    refine Qn rfl (by with_reducible exact bFrac) rfl .nil rfl ?_
    refine Qn rfl (by with_reducible exact bFrac) rfl .nil rfl ?_
    refine Qb 3 rfl rfl rfl rfl rfl (by with_reducible exact szFrac) rfl rfl ?_
    refine Qb 3 rfl rfl rfl rfl rfl (by with_reducible exact szFrac) rfl rfl ?_
    (refine Qv rfl rfl rfl ?_; refine Qj (hK _ _ (Qx (QU (QV ?_)))); clear hK K)
    refine QW [_, _, _] rfl (XY (w_agg (ds := [boolC false, intsC [], intsC []]) (by exact ⟨w_same, ZV, ZV, trivial⟩)) (Qg (n := 3) rfl rfl (by with_reducible exact ZU) rfl (XY (w_agg (ds := [boolC false, intsC [], intsC []]) (by exact ⟨w_same, ZV, ZV, trivial⟩)) (Qg (n := 3) rfl rfl (by with_reducible exact ZU) rfl (QQ rfl QX))))) (by rw [e]; show CT.fr (tupT [.fr (aggT [boolC false, intsC (limbs 0), intsC (limbs 0)]), .fr (aggT [boolC false, intsC (limbs 0), intsC (limbs 0)]), intC 1]) = _; rw [limbs_zero]; rfl) rfl
  rw [if_neg (fun h => h.elim g1 (fun h => h.elim g2 (fun h => h.elim g3 g4)))] at e
  have hF1 := FFrom_ok c.lo c.se (by omega) (by omega) (by omega) (by omega) (by omega)
  have hF2 := FFrom_ok c.hi c.se (by omega) (by omega) (by omega) (by omega) (by omega)
  (refine Q0 (Qx (Qy (Qq fun K hK => ?_))); refine QY rfl rfl rfl (by with_reducible first | exact fTk0 | exact fTk1 | exact fTk2 | exact fWr0 | exact fWr1 | exact X6 | exact X7 | exact Xt | exact fStm1 | exact fCn0 | exact fCn1 | exact fCn2 | exact fCn3 | exact fCs0 | exact fCs1) rfl ?_; refine QJ rfl rfl rfl rfl rfl (by with_reducible first | exact lInt | exact Qh | exact Qf | exact lRess) rfl ?_; refine QY rfl rfl rfl (by with_reducible first | exact fTk0 | exact fTk1 | exact fTk2 | exact fWr0 | exact fWr1 | exact X6 | exact X7 | exact Xt | exact fStm1 | exact fCn0 | exact fCn1 | exact fCn2 | exact fCn3 | exact fCs0 | exact fCs1) rfl ?_; refine QJ rfl rfl rfl rfl rfl (by with_reducible first | exact lInt | exact Qh | exact Qf | exact lRess) rfl ?_)
  refine QZ goFFrom hF1 rfl rfl rfl rfl ?_
  (refine Qz rfl rfl rfl ?_; refine Qa rfl rfl rfl rfl ?_; refine Qa rfl rfl rfl rfl ?_)
  refine Qb 3 rfl rfl rfl rfl rfl (by with_reducible exact szFrac) rfl rfl ?_
  (refine Qj (hK _ _ (Qx (Qy ?_))); clear hK K; refine Qq (fun K hK => ?_); refine QY rfl rfl rfl (by with_reducible first | exact fTk0 | exact fTk1 | exact fTk2 | exact fWr0 | exact fWr1 | exact X6 | exact X7 | exact Xt | exact fStm1 | exact fCn0 | exact fCn1 | exact fCn2 | exact fCn3 | exact fCs0 | exact fCs1) rfl ?_; refine QJ rfl rfl rfl rfl rfl (by with_reducible first | exact lInt | exact Qh | exact Qf | exact lRess) rfl ?_; refine QY rfl rfl rfl (by with_reducible first | exact fTk0 | exact fTk1 | exact fTk2 | exact fWr0 | exact fWr1 | exact X6 | exact X7 | exact Xt | exact fStm1 | exact fCn0 | exact fCn1 | exact fCn2 | exact fCn3 | exact fCs0 | exact fCs1) rfl ?_; refine QJ rfl rfl rfl rfl rfl (by with_reducible first | exact lInt | exact Qh | exact Qf | exact lRess) rfl ?_)
  refine QZ goFFrom hF2 rfl rfl rfl rfl ?_
  (refine Qz rfl rfl rfl ?_; refine Qa rfl rfl rfl rfl ?_; refine Qa rfl rfl rfl rfl ?_)
  refine Qb 3 rfl rfl rfl rfl rfl (by with_reducible exact szFrac) rfl rfl ?_
  (refine Qj (hK _ _ (Qx (Qy ?_))); clear hK K)
  refine St.drawQ (by with_reducible exact mixed) [2, 3] (.f 0 (.m 1 (.a 2 (.a 3 (.p 4 .done) .non) .non) (.a 2 (.f 1 (.a 3 (.p 4 .done) .non)) .non))) (by kernel_rfl) (fun K hK => ?_)
  refine X9 ?_
  refine Q8 (n := 3) rfl rfl rfl rfl rfl (by with_reducible exact ZU) rfl ?_
  refine Qj ?_
  refine Xm ?_ ?_
  · refine Q8 (n := 3) rfl rfl rfl rfl rfl (by with_reducible exact ZU) rfl ?_
    refine Qj ?_
    refine Xw ?_ Ql
    refine Qb 3 rfl rfl rfl rfl rfl (by with_reducible exact szFrac) rfl rfl ?_
    refine Qj ?_
    refine Xw ?_ Ql
    refine Qb 3 rfl rfl rfl rfl rfl (by with_reducible exact szFrac) rfl rfl ?_
    refine Qj ?_
    refine ZY ?_
    refine Qv rfl rfl rfl ?_
    refine Qj ?_
    refine Xu (hK _ _ ?_)
    (refine Qx (QU ?_))
    refine QW [_, _, _] rfl (Qg (n := 3) rfl rfl (by with_reducible exact ZU) rfl (Qg (n := 3) rfl rfl (by with_reducible exact ZU) rfl (QQ rfl QX))) (by rw [e]; rfl) rfl
  refine Xw ?_ Ql
  refine Qb 3 rfl rfl rfl rfl rfl (by with_reducible exact szFrac) rfl rfl ?_
  refine Qj ?_
  refine X9 ?_
  refine Q8 (n := 3) rfl rfl rfl rfl rfl (by with_reducible exact ZU) rfl ?_
  refine Qj ?_
  refine Xw ?_ Ql
  refine Qb 3 rfl rfl rfl rfl rfl (by with_reducible exact szFrac) rfl rfl ?_
  refine Qj ?_
  refine ZY ?_
  refine Qv rfl rfl rfl ?_
  refine Qj ?_
  refine Xu (hK _ _ ?_)
  (refine Qx (QU ?_))
  refine QW [_, _, _] rfl (Qg (n := 3) rfl rfl (by with_reducible exact ZU) rfl (Qg (n := 3) rfl rfl (by with_reducible exact ZU) rfl (QQ rfl QX))) (by rw [e]; rfl) rfl
end Go.Proofs.YtlkdkbdgnjcopaaGreat
namespace Go.Proofs.YtlkdkbdgnjcopaaGreat
open Go.Own Go.Limbs
structure Dat (d : List (Int × Int)) : Prop where
  ok : ∀ p ∈ d, 1 ≤ p.1 ∧ p.1 ≤ 3 ∧ 0 ≤ p.2 ∧ p.2 ≤ p.1
  hs : ∀ t : Int, 1 ≤ t → t ≤ 3 → t ≤ d.length → (t, 0) ∈ d
theorem Dat.nil : Dat [] := ⟨fun p h => absurd h (by simp), fun t h1 _ h3 => absurd h3 (by simp only [List.length_nil]; omega)⟩
theorem Dat.snoc {d : List (Int × Int)} (h : Dat d) {t w : Int} (h1 : 1 ≤ t ∧ t ≤ 3) (h2 : 0 ≤ w ∧ w ≤ t) (h3 : (d.length : Int) < 3 → t = d.length + 1 ∧ w = 0) : Dat (d ++ [(t, w)]) := by
  refine ⟨fun p hp => ?_, fun s a b c => ?_⟩
  · rcases List.mem_append.1 hp with hp | hp
    · exact h.ok p hp
    · rw [List.mem_singleton] at hp; subst hp; exact ⟨h1.1, h1.2, h2.1, h2.2⟩
  · rw [List.length_append, List.length_singleton] at c
    by_cases hs : s ≤ d.length
    · exact List.mem_append_left _ (h.hs s a b hs)
    · obtain ⟨e1, e2⟩ := h3 (by omega)
      refine List.mem_append_right _ (List.mem_singleton.2 ?_)
      rw [e1, e2]; congr 1; omega
def hereP (w : Int) (p : Int × Int) : Bool := decide (w ≤ p.1) && (decide (p.2 = 0) == false) && decide (p.2 = w)
def othP (w : Int) (p : Int × Int) : Bool := decide (w ≤ p.1) && (decide (p.2 = 0) == false) && !decide (p.2 = w)
def hereF (w : Int) (d : List (Int × Int)) : Nat := d.countP (hereP w)
def othF (w : Int) (d : List (Int × Int)) : Nat := d.countP (othP w)
theorem lost_sum (w : Int) : ∀ d : List (Int × Int), (d.countP fun p => decide (w ≤ p.1) && (decide (p.2 = 0) == false)) = hereF w d + othF w d
  | [] => rfl
  | p :: d => by
    have h := lost_sum w d
    unfold hereF othF at h ⊢
    rw [List.countP_cons, List.countP_cons, List.countP_cons, h]
    unfold hereP othP
    by_cases h1 : w ≤ p.1 <;> by_cases h2 : p.2 = 0 <;> by_cases h3 : p.2 = w <;> simp [h1, h2, h3] <;> omega
theorem hereF_le (w : Int) (d : List (Int × Int)) : hereF w d ≤ d.length := List.countP_le_length
theorem othF_le (w : Int) (d : List (Int × Int)) : othF w d ≤ d.length := List.countP_le_length
theorem take_snoc {α : Type} {z : α} {l : List α} {i : Nat} (h : i < l.length) : l.take (i + 1) = l.take i ++ [l.getD i z] := by
  rw [List.take_add_one, List.getElem?_eq_getElem h]; simp [List.getD_eq_getElem?_getD, List.getElem?_eq_getElem h]
theorem hereF_step {w : Int} {d : List (Int × Int)} {i : Nat} (h : i < d.length) : hereF w (d.take (i + 1)) = hereF w (d.take i) + if hereP w (d.getD i (0, 0)) = true then 1 else 0 := by
  rw [take_snoc (z := (0, 0)) h]; unfold hereF; rw [List.countP_append, List.countP_singleton]
theorem othF_step {w : Int} {d : List (Int × Int)} {i : Nat} (h : i < d.length) : othF w (d.take (i + 1)) = othF w (d.take i) + if othP w (d.getD i (0, 0)) = true then 1 else 0 := by
  rw [take_snoc (z := (0, 0)) h]; unfold othF; rw [List.countP_append, List.countP_singleton]
theorem Dat.cnt {d : List (Int × Int)} (h : Dat d) (h3 : 3 ≤ d.length) (hl : d.length ≤ 500) {w b : Int} (hw : 1 ≤ w) (hw3 : w ≤ 3) (hb : 0 ≤ b) (hb2 : b ≤ 1048576) :
    ∃ se, cntF (xF 4 0 d) (wk w) b = (⟨wk w, se, max 0 ((hereF w d + othF w d : Nat) - b), (hereF w d + othF w d : Nat)⟩, 0) := by
  have := xF_cnt (o := 4) (n := 3) (d := d) (by decide) (by decide) hl (fun p hp => ⟨(h.ok p hp).1, (h.ok p hp).2.1⟩) (fun t a b => h.hs t a b (by omega)) hw hw3 hb hb2
  rw [lost_sum] at this
  exact ⟨_, this⟩
theorem xF_getD (o : Int) : ∀ (d : List (Int × Int)) (i : Int) (j : Nat), j < d.length → (xF o i d).getD j rs0 = mkX o (i + j) (d.getD j (0, 0)).1 (d.getD j (0, 0)).2
  | [], _, _, h => absurd h (Nat.not_lt_zero _)
  | p :: d, i, 0, _ => by show mkX o i p.1 p.2 = mkX o (i + (0 : Nat)) p.1 p.2; rw [Int.natCast_zero, Int.add_zero]
  | p :: d, i, j + 1, h => by
    have := xF_getD o d (i + 1) j (by simpa using h)
    show (xF o (i + 1) d).getD j rs0 = mkX o (i + ((j + 1 : Nat) : Int)) (d.getD j (0, 0)).1 (d.getD j (0, 0)).2
    rw [this]; congr 1; omega
theorem sec_getD (d : List (Int × Int)) (j : Nat) (h : j < d.length) : (d.map (·.2)).getD j 0 = (d.getD j (0, 0)).2 := by
  simp [List.getD_eq_getElem?_getD, List.getElem?_eq_getElem h]
end Go.Proofs.YtlkdkbdgnjcopaaGreat
