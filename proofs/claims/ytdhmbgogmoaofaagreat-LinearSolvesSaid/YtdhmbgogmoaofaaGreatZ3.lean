/- The proof that LinearSolves holds for every input, without conditions: part 3 of 6. -/
import Derived.Test.YtdhmbgogmoaofaaGreatZ2
import Derived.Laws.Slices
namespace Go.Proofs.YtdhmbgogmoaofaaGreat
open Go.Own Go.Limbs
attribute [local irreducible] St Ops Go.Own.Fin Ok OkM
def duS (T : Tv) (n m gi : Nat) : Nat → List Rat
  | 0 => List.replicate m 0
  | j + 1 => if (n : Int) ≤ T.col.getD j 0 ∧ T.col.getD j 0 < n + m then (duS T n m gi j).set (T.col.getD j 0 - n).toNat (shq (T.at gi j) T.den) else duS T n m gi j
theorem duS_len (T : Tv) (n m gi : Nat) : ∀ i, (duS T n m gi i).length = m
  | 0 => by simp [duS]
  | i + 1 => by simp only [duS]; split <;> simp [duS_len T n m gi i]
theorem godual : InGo Tryz.prog 70 := InGo.of Tryz.func70 (by kernel_rfl) (by kernel_rfl)
set_option maxHeartbeats 8000000 in
theorem dual_ok (T : Tv) (G : Gd T) (n m gi : Nat) (hn : n ≤ 100) (hm : m ≤ 100) (hgi : gi < T.rows.length) (hb : ∀ i, 0 ≤ T.col.getD i 0) : OkM Tryz.prog 70 [.own 0, .ct (intC n), .ct (intC m), .ct (intC gi)] (tabB T) [0] (fun _ : Unit => True) (fun _ => .ct (fracsC ((duS T n m gi T.col.length).map ofQ))) (fun _ => tabB T) := by
  have hfew := G.fit.few; have hthin := G.fit.thin; have hhl := G.fit.hl; have hbas := G.fit.bas; have hDs := G.dens; have hrow := G.fit.row gi hgi
  have kg : (gi : Int).toNat * 1 = gi := by omega
  have hof := of_ok 0 (by decide) (by decide); have hsh0 := share_ok T 0 (by rw [show (0 : Int).natAbs = 0 from rfl, limbs_zero]; decide) G.den (by omega); rw [Y8] at hsh0
  refine OkM.enter Tryz.func70 J _ Tryz.ntmps70 J (tab_fx T) ?_
  intro S w ρ0 hbor
  have hfix : ∀ e : Ent, ∀ p ∈ (lentM Tryz.prog 66 S w (tabB T) [0] ρ0).fix, (bget [(5, e)] p.1).isSome = true ∨ p.1 ∈ [0] := fun e p hp => by
    obtain ⟨i, hi, rfl⟩ := List.mem_map.1 hp; exact .inr hi
  refine Qy (Qx fun K hK => ?_); refine Qv J J J (Qj (hK _ _ (Qz (Qy ?_)))); clear hK K; refine Qx (fun K hK => ?_); refine Qq J J J (Z5 5 m J J J J sFracs (by omega) (by omega) J (by exact Zl 10 _ _ 5 (by decide)) J ?_); rw [frR_made]; refine Qv J J J (Qj (hK _ _ (Qz (Qy (Qy ?_))))); clear hK K; refine Qx (fun K hK => ?_); refine Qq J J J (Ops.lenR m J J J (by decide) (by rw [Zz]; simp) sFracs.und J ?_); refine Qq J J J (Qj (hK _ _ (Qz (Q0 ?_)))); clear hK K
  refine Xq (α := Nat) (fun j => j ≤ m)
    (fun j => [(0, .own 0), (1, .ct (intC n)), (2, .ct (intC m)), (3, .ct (intC gi)), (9, .own 5), (16, .ct (intC m)), (17, .ct (intC j))])
    (fun j => (5, .row 38 3 (frR (List.replicate j (some 0) ++ List.replicate (m - j) none))) :: tabB T) (fun j => m - j) 0 (Nat.zero_le _) (by exact Qu J ⟨rfl, rfl, rfl, rfl, rfl, rfl, rfl, trivial⟩) ?_
  intro j hj
  (try dsimp only at hj ⊢)
  refine Qy (Qx fun K hK => ?_); refine Qw ilss J J J J (Qj (hK _ _ (Qz (Qy ?_)))); clear hK K; refine QK J (fun h => ?_) (fun h => ?_)
  · have kj : (j : Int).toNat * 3 = j * 3 := by omega
    refine QU (Qz (Qy (Q0 (Qy (Qx fun K hK => ?_))))); refine Qq J J J (Qv J J J (Qj (hK _ _ (Qz ?_)))); clear hK K; refine Qx (fun K hK => ?_); refine Qq J J J (Qq J J J (Qq J J J (QQ goof hof J J J J (Xh [(5, _)] goshare hsh0 J J J hbor J J (hfix _) (fun _ _ => ?_))))); skip
    refine Xu m J J J (by rw [Zz]; simp; omega) J sFracs (by omega) (by omega) J ?_
    rw [kj]
    refine stFr J J J J (by simp; omega) szFrac ?_
    rw [rep_set m j (by omega)]; refine Qj (hK _ _ (Qz ?_)); clear hK K; refine Qx (fun K hK => ?_)
    refine Qw (iadd (by omega) (by omega)) J J J J ?_
    refine Qq J J J (Qj (hK _ _ (Q4 ?_))); clear hK K; refine Qb (j + 1) (by omega) (by omega) (by exact Qu J ⟨rfl, rfl, rfl, rfl, rfl, rfl, by simp only [Int.natCast_add]; rfl, trivial⟩)
  have hjn : j = m := by omega
  subst hjn; rw [Nat.sub_self, List.replicate_zero, List.append_nil, show List.replicate j (some (0 : Rat)) = (duS T n j gi 0).map some by simp [duS]]; refine Qr (Qz (Qy (Qy (Qx fun K hK => ?_)))); refine Qq J J J (Q5 J J J J (QV J J J fT2 J (QJ J J J J J lInts J (ZK 3 T.col.length J J J (by decide) (by simp) sInts.und J ?_)))); refine Qq J J J (Qj (hK _ _ (Qz (Q0 ?_)))); clear hK K
  refine Xq (α := Nat) (fun i => i ≤ T.col.length)
    (fun i => [(0, .own 0), (1, .ct (intC n)), (2, .ct (intC j)), (3, .ct (intC gi)), (9, .own 5), (30, .ct (.ex T.hC)), (31, .ct (intC T.col.length)), (32, .ct (intC i))])
    (fun i => (5, .row 38 3 (frR ((duS T n j gi i).map some))) :: tabB T) (fun i => T.col.length - i) 0 (Nat.zero_le _) (by exact Qu J ⟨rfl, rfl, rfl, rfl, rfl, rfl, rfl, rfl, trivial⟩) ?_
  intro i hi
  (try dsimp only at hi ⊢)
  have hpl := duS_len T n j gi i
  have es : duS T n j gi (i + 1) = if (n : Int) ≤ T.col.getD i 0 ∧ T.col.getD i 0 < n + j then (duS T n j gi i).set (T.col.getD i 0 - n).toNat (shq (T.at gi i) T.den) else duS T n j gi i := rfl
  have hbi := hb i; generalize hcur : duS T n j gi i = cur at *; simp only [tabB]; refine Qy (Qx fun K hK => ?_); refine Qw ilss J J J J (Qj (hK _ _ (Qz (Qy ?_)))); clear hK K; refine QK J (fun h => ?_) (fun h => ?_)
  · have ki : (i : Int).toNat * 1 = i := by omega
    have ki2 : (i : Int).toNat * 2 = i * 2 := by omega
    have sa := G.short gi i; have hsh := share_ok T (T.at gi i) (by omega) G.den (by omega); refine QU (Qz (Qy (Q0 (Qy (Qx fun K hK => ?_))))); refine Qq J J J (Qo 3 T.col.length J J J (by simp) J sInts (by omega) (by omega) J ?_); rw [ki]
    refine QJ J J J J (Xi (by omega)) lInt J ?_
    generalize T.col.getD i 0 = v at *; refine Qv J J J (Qv J J J (Qj (hK _ _ (Qz (Qy ?_))))); clear hK K; refine Qx (fun K hK => ?_); refine Qq J J J (Qq J J J (Qw igeq J J J J (Qq J J J ?_)))
    have stay : ¬ ((n : Int) ≤ v ∧ v < n + j) → duS T n j gi (i + 1) = cur := fun h => by rw [es, if_neg h]
    refine Qp 40 J (fun h2 => ?_) (fun h2 => ?_)
    · refine Qq J J J (Qq J J J (Qq J J J (Qw (iadd (by omega) (by omega)) J J J J ?_))); refine Qw ilss J J J J (Qc J J J J (Qj (hK _ _ (Qz ?_)))); clear hK K; refine QK J (fun h3 => ?_) (fun h3 => ?_)
      · rw [if_pos ⟨h2, h3⟩] at es; refine Qx (fun K hK => ?_); refine Qq J J J (Qq J J J (Qq J J J (Qw (isub (by omega) (by omega)) J J J J ?_))); refine Qq J J J (Qq J J J (Q5 J J J J (QV J J J fT0 J (QJ J J J J J lMat J (Qq J J J (Qo 1 T.rows.length J J J (by simp [hhl]) J sMat (by omega) (by omega) J ?_)))))); rw [kg]
        refine QJ J J J J (Yk (by omega)) lWhs J ?_
        refine Qq J J J (Qo (gi + 10) (T.col.length + 1) J J (XK (by omega) hgi) (by rw [X9, hrow]) J sWhs (by omega) (by omega) J ?_); rw [ki2]
        refine ldWh J J J (XK (by omega) hgi) J (by omega) lWh J ?_
        refine Xh [(5, _)] goshare hsh J J J hbor J J (hfix _) (fun _ _ => ?_); skip
        refine Xu j J J J (by rw [Zz]; simp; omega) J sFracs (by omega) (by omega) J ?_
        refine stFr J J J J (by simp; omega) szFrac ?_
        rw [show (cur.map some).set (v - n).toNat (some (shq (T.at gi i) T.den)) = (duS T n j gi (i + 1)).map some by rw [es, List.map_set]]; refine Qj (hK _ _ (Qz ?_)); clear hK K; refine Qx (fun K hK => ?_)
        refine Qw (iadd (by omega) (by omega)) J J J J ?_
        refine Qq J J J (Qj (hK _ _ (Q4 ?_))); clear hK K; refine Qb (i + 1) (by omega) (by omega) (by exact Qu J ⟨rfl, rfl, rfl, rfl, rfl, rfl, rfl, by simp only [Int.natCast_add]; rfl, trivial⟩)
      · refine QU (Qz (Qx fun K hK => ?_))
        refine Qw (iadd (by omega) (by omega)) J J J J ?_
        refine Qq J J J (Qj (hK _ _ (Q4 ?_))); clear hK K; refine Qb (i + 1) (by omega) (by omega) (by exact Qu (by rw [stay (fun h => h3 h.2)]) ⟨rfl, rfl, rfl, rfl, rfl, rfl, rfl, by simp only [Int.natCast_add]; rfl, trivial⟩)
    · refine Qk J J J (Qk J J J (Qk J J J (Qk J J J (Qk J J J (Q6 J J J J (Qj (hK _ _ (Qz (XY J (QU (Qz ?_))))))))))); clear hK K; refine Qx (fun K hK => ?_)
      refine Qw (iadd (by omega) (by omega)) J J J J ?_
      refine Qq J J J (Qj (hK _ _ (Q4 ?_))); clear hK K; refine Qb (i + 1) (by omega) (by omega) (by exact Qu (by rw [stay (fun h => h2 h.1)]) ⟨rfl, rfl, rfl, rfl, rfl, rfl, rfl, by simp only [Int.natCast_add]; rfl, trivial⟩)
  · have hi' : i = T.col.length := by omega
    subst hi'; refine Xl 5 _ J (frR_frozen _ _) hbor (Qr (Qz (Qy (Qx fun K hK => ?_)))); refine Qq J J J (Qv J J J (Qj (hK _ _ (Qz (Q2 ?_))))); clear hK K; refine YK () [_] rfl (QZ J QX) (by rw [hcur]; rfl) (tab_del (by decide) (by decide)) (tab_fx T) trivial
end Go.Proofs.YtdhmbgogmoaofaaGreat
namespace Go.Own
open Go.RowKit
variable {X : Ctx} {L : AL} {B : BL} {ops : Array Oper} {K : Act → World → Prop} {r : Pl} {k : Kd}
  {x y z : Operand} {d : Nat} {t t2 t' : TypeId} {pos : String} {af : Array Edge} {g : Option (Nat × Bool)}
theorem Zw {c y : Code} {Q : Exit → Act → World → Prop} {α : Type} (J : α → Prop) (Lx : α → AL) (Bx : α → BL) (h1 : ∀ q, J q → St X (Lx q) (Bx q) y Q)
    (h2 : ∀ K : Exit → Act → World → Prop, (∀ q, J q → Fin X (Lx q) (Bx q) (fun a w => K .normal a w)) → St X L B c K) : St X L B c (Exit.then (y.wp X.P Q) Q) :=
  h2 _ (fun q hq => h1 q hq)
theorem Fin.nameS (dd i m : Nat) {el n : Nat} {cs : List CT} (hd : look L dd = some (.own i)) (hi : bget B i = some (.row el n cs)) (hl : cs.length = m * n) (hm : 0 < m) (hp : 0 < n)
    (h : ∀ gb c, m ≤ c → c ≤ maxLen → Fin X ((dd, .ct (.ex (.slice (some ⟨gb, 0, none⟩) m c))) :: L) (bset B i (.rowx (.slice (some ⟨gb, 0, none⟩) m c) el n cs)) K) : Fin X L B K := fun a ρ w hI => by
  have h1 : a.tmps.getD dd undef = ρ i := hI.slot dd _ hd
  obtain ⟨n', vs, how, hc⟩ := (hI.ent i _ hi).1
  have hl' := hc.length
  rw [how.1, hl] at hl'
  have hnm : n' = m := Nat.eq_of_mul_eq_mul_right hp hl'
  subst hnm
  rcases how.2 with ⟨h2, h3⟩ | ⟨gb, cap, cur, h2, h3, h4, h5, h6⟩
  · omega
  · have hx : (Ent.rowx (.slice (some ⟨gb, 0, none⟩) n' cap) el n cs).ok (Sof X B ρ) w (ρ i) := ⟨h2, n', vs, how, hc⟩
    refine h gb cap (by omega) ?_ a ρ w ((hI.retype (e' := .rowx (.slice (some ⟨gb, 0, none⟩) n' cap) el n cs) hi hx rfl).slotx (s := .ct (.ex _)) (h1.trans h2))
    omega
end Go.Own
namespace Go.Proofs.YtdhmbgogmoaofaaGreat
open Go.Own Go.Limbs
attribute [local irreducible] St Ops Go.Own.Fin Ok OkM
def raS (T : Tv) (n s : Nat) : Nat → List Rat
  | 0 => if T.col.getD s 0 < n then (List.replicate n 0).set (T.col.getD s 0).toNat (shq T.den T.den) else List.replicate n 0
  | i + 1 => if T.bas.getD i 0 < n then (raS T n s i).set (T.bas.getD i 0).toNat (shq (-(T.at i s)) T.den) else raS T n s i
theorem raS_len (T : Tv) (n s : Nat) : ∀ i, (raS T n s i).length = n
  | 0 => by simp only [raS]; split <;> simp
  | i + 1 => by simp only [raS]; split <;> simp [raS_len T n s i]
theorem goray : InGo Tryz.prog 73 := InGo.of Tryz.func73 (by kernel_rfl) (by kernel_rfl)
set_option maxHeartbeats 8000000 in
theorem ray_ok (T : Tv) (G : Gd T) (n s : Nat) (hn : n ≤ 100) (hs : s < T.col.length) (hb : ∀ i, 0 ≤ T.bas.getD i 0) (hc : ∀ i, 0 ≤ T.col.getD i 0) : OkM Tryz.prog 73 [.own 0, .ct (intC n), .ct (intC s)] (tabB T) [0] (fun _ : Unit => True) (fun _ => .ct (fracsC ((raS T n s T.bas.length).map ofQ))) (fun _ => tabB T) := by
  have hfew := G.fit.few; have hthin := G.fit.thin; have hhl := G.fit.hl; have hbas := G.fit.bas; have hDs := G.dens
  have ks : (s : Int).toNat * 1 = s := by omega
  have ks2 : (s : Int).toNat * 2 = s * 2 := by omega
  have hof := of_ok 0 (by decide) (by decide); have hsh0 := share_ok T 0 (by rw [show (0 : Int).natAbs = 0 from rfl, limbs_zero]; decide) G.den (by omega); rw [Y8] at hsh0; have hsh1 := share_ok T T.den (by omega) G.den (by omega); have hcs := hc s
  refine OkM.enter Tryz.func73 J _ Tryz.ntmps73 J (tab_fx T) ?_
  intro S w ρ0 hbor
  have hfix : ∀ e : Ent, ∀ p ∈ (lentM Tryz.prog 76 S w (tabB T) [0] ρ0).fix, (bget [(5, e)] p.1).isSome = true ∨ p.1 ∈ [0] := fun e p hp => by
    obtain ⟨i, hi, rfl⟩ := List.mem_map.1 hp; exact .inr hi
  refine Qy (Qx fun K hK => ?_); refine Qv J J J (Qj (hK _ _ (Qz (Qy ?_)))); clear hK K; refine Qx (fun K hK => ?_); refine Qq J J J (Z5 5 n J J J J sFracs (by omega) (by omega) J (by exact Zl 10 _ _ 5 (by decide)) J ?_); rw [frR_made]; refine Qv J J J (Qj (hK _ _ (Qz (Qy (Qy ?_))))); clear hK K; refine Qx (fun K hK => ?_); refine Qq J J J (Ops.lenR n J J J (by decide) (by rw [Zz]; simp) sFracs.und J ?_); refine Qq J J J (Qj (hK _ _ (Qz (Q0 ?_)))); clear hK K
  refine Xq (α := Nat) (fun j => j ≤ n)
    (fun j => [(0, .own 0), (1, .ct (intC n)), (2, .ct (intC s)), (7, .own 5), (15, .ct (intC n)), (16, .ct (intC j))])
    (fun j => (5, .row 38 3 (frR (List.replicate j (some 0) ++ List.replicate (n - j) none))) :: tabB T) (fun j => n - j) 0 (Nat.zero_le _) (by exact Qu J ⟨rfl, rfl, rfl, rfl, rfl, rfl, trivial⟩) ?_
  intro j hj
  (try dsimp only at hj ⊢)
  refine Qy (Qx fun K hK => ?_); refine Qw ilss J J J J (Qj (hK _ _ (Qz (Qy ?_)))); clear hK K; refine QK J (fun h => ?_) (fun h => ?_)
  · have kj : (j : Int).toNat * 3 = j * 3 := by omega
    refine QU (Qz (Qy (Q0 (Qy (Qx fun K hK => ?_))))); refine Qq J J J (Qv J J J (Qj (hK _ _ (Qz ?_)))); clear hK K; refine Qx (fun K hK => ?_); refine Qq J J J (Qq J J J (Qq J J J (QQ goof hof J J J J (Xh [(5, _)] goshare hsh0 J J J hbor J J (hfix _) (fun _ _ => ?_))))); skip
    refine Xu n J J J (by rw [Zz]; simp; omega) J sFracs (by omega) (by omega) J ?_
    rw [kj]
    refine stFr J J J J (by simp; omega) szFrac ?_
    rw [rep_set n j (by omega)]; refine Qj (hK _ _ (Qz ?_)); clear hK K; refine Qx (fun K hK => ?_)
    refine Qw (iadd (by omega) (by omega)) J J J J ?_
    refine Qq J J J (Qj (hK _ _ (Q4 ?_))); clear hK K; refine Qb (j + 1) (by omega) (by omega) (by exact Qu J ⟨rfl, rfl, rfl, rfl, rfl, by simp only [Int.natCast_add]; rfl, trivial⟩)
  have hjn : j = n := by omega
  subst hjn; rw [Nat.sub_self, List.replicate_zero, List.append_nil]; refine Qr (Qz (Qy (Qy (Qx fun K hK => ?_)))); refine Qq J J J (Q5 J J J J (QV J J J fT2 J (QJ J J J J J lInts J (Qq J J J (Qo 3 T.col.length J J J (by simp) J sInts (by omega) (by omega) J ?_))))); rw [ks]
  refine QJ J J J J (Xi (by omega)) lInt J ?_
  have r0 : raS T j s 0 = if T.col.getD s 0 < j then (List.replicate j 0).set (T.col.getD s 0).toNat (shq T.den T.den) else List.replicate j 0 := rfl
  generalize T.col.getD s 0 = cs at *; refine Qv J J J (Qj (hK _ _ (Qz (Qy ?_)))); clear hK K; refine Qx (fun K hK => ?_); refine Qq J J J (Qq J J J (Qw ilss J J J J (Qj (hK _ _ (Qz ?_))))); clear hK K; refine Zw (α := Unit) (fun _ => True) (fun _ => [(0, .own 0), (1, .ct (intC j)), (2, .ct (intC s)), (7, .own 5)]) (fun _ => (5, .row 38 3 (frR ((raS T j s 0).map some))) :: tabB T) (fun _ _ => ?_) (fun KK hN => ?_)
  · clear r0; refine Qy (Qy (Qx fun K hK => ?_)); refine Qq J J J (Q5 J J J J (QV J J J fT1 J (QJ J J J J J lInts J (ZK 2 T.bas.length J J J (by decide) (by simp) sInts.und J ?_)))); refine Qq J J J (Qj (hK _ _ (Qz (Q0 ?_)))); clear hK K
    refine Xq (α := Nat) (fun i => i ≤ T.bas.length)
      (fun i => [(0, .own 0), (1, .ct (intC j)), (2, .ct (intC s)), (7, .own 5), (48, .ct (.ex T.hB)), (49, .ct (intC T.bas.length)), (50, .ct (intC i))])
      (fun i => (5, .row 38 3 (frR ((raS T j s i).map some))) :: tabB T) (fun i => T.bas.length - i) 0 (Nat.zero_le _) (by exact Qu J ⟨rfl, rfl, rfl, rfl, rfl, rfl, rfl, trivial⟩) ?_
    intro i hi
    (try dsimp only at hi ⊢)
    have hpl := raS_len T j s i
    have es : raS T j s (i + 1) = if T.bas.getD i 0 < j then (raS T j s i).set (T.bas.getD i 0).toNat (shq (-(T.at i s)) T.den) else raS T j s i := rfl
    have hbi := hb i; generalize hcur : raS T j s i = cur at *; simp only [tabB]; refine Qy (Qx fun K hK => ?_); refine Qw ilss J J J J (Qj (hK _ _ (Qz (Qy ?_)))); clear hK K; refine QK J (fun h => ?_) (fun h => ?_)
    · have hi2 : i < T.rows.length := by omega
      have hrow := G.fit.row i hi2
      have ki : (i : Int).toNat * 1 = i := by omega
      have sa := G.short i s; have hsh := share_ok T (-(T.at i s)) (Nat.le_trans (neg_short sa) (by decide)) G.den (by omega); refine QU (Qz (Qy (Q0 (Qy (Qx fun K hK => ?_))))); refine Qq J J J (Qo 2 T.bas.length J J J (by simp) J sInts (by omega) (by omega) J ?_); rw [ki]
      refine QJ J J J J (Xi (by omega)) lInt J ?_
      generalize T.bas.getD i 0 = v at *; refine Qv J J J (Qv J J J (Qj (hK _ _ (Qz (Qy ?_))))); clear hK K; refine Qx (fun K hK => ?_); refine Qq J J J (Qq J J J (Qw ilss J J J J (Qj (hK _ _ (Qz ?_))))); clear hK K; refine QK J (fun h2 => ?_) (fun h2 => ?_)
      · rw [if_pos h2] at es; refine Qx (fun K hK => ?_); refine Qq J J J (Qq J J J (Qq J J J (Qq J J J (Q5 J J J J (QV J J J fT0 J (QJ J J J J J lMat J (Qq J J J (Qo 1 T.rows.length J J J (by simp [hhl]) J sMat (by omega) (by omega) J ?_)))))))); rw [ki]
        refine QJ J J J J (Yk (by omega)) lWhs J ?_
        refine Qq J J J (Qo (i + 10) (T.col.length + 1) J J (XK (by omega) hi2) (by rw [X9, hrow]) J sWhs (by omega) (by omega) J ?_); rw [ks2]
        refine ldWh J J J (XK (by omega) hi2) J (by omega) lWh J ?_
        refine QQ gominus (minus_ok (T.at i s)) J J J J (Xh [(5, _)] goshare hsh J J J hbor J J (hfix _) (fun _ _ => ?_)); skip
        refine Xu j J J J (by rw [Zz]; simp; omega) J sFracs (by omega) (by omega) J ?_
        refine stFr J J J J (by simp; omega) szFrac ?_
        rw [show (cur.map some).set v.toNat (some (shq (-(T.at i s)) T.den)) = (raS T j s (i + 1)).map some by rw [es, List.map_set]]; refine Qj (hK _ _ (Qz ?_)); clear hK K; refine Qx (fun K hK => ?_)
        refine Qw (iadd (by omega) (by omega)) J J J J ?_
        refine Qq J J J (Qj (hK _ _ (Q4 ?_))); clear hK K; refine Qb (i + 1) (by omega) (by omega) (by exact Qu J ⟨rfl, rfl, rfl, rfl, rfl, rfl, by simp only [Int.natCast_add]; rfl, trivial⟩)
      · rw [if_neg h2] at es; refine QU (Qz (Qx fun K hK => ?_))
        refine Qw (iadd (by omega) (by omega)) J J J J ?_
        refine Qq J J J (Qj (hK _ _ (Q4 ?_))); clear hK K; refine Qb (i + 1) (by omega) (by omega) (by exact Qu (by rw [es]) ⟨rfl, rfl, rfl, rfl, rfl, rfl, by simp only [Int.natCast_add]; rfl, trivial⟩)
    · have hi' : i = T.bas.length := by omega
      subst hi'; refine Xl 5 _ J (frR_frozen _ _) hbor (Qr (Qz (Qy (Qx fun K hK => ?_)))); refine Qq J J J (Qv J J J (Qj (hK _ _ (Qz (Q2 ?_))))); clear hK K; refine YK () [_] rfl (QZ J QX) (by rw [hcur]; rfl) (tab_del (by decide) (by decide)) (tab_fx T) trivial
  · refine QK J (fun h2 => ?_) (fun h2 => ?_)
    · rw [if_pos h2] at r0; refine Qx (fun K hK => ?_); refine Qq J J J (Qq J J J (Qq J J J (Qq J J J (Q5 J J J J (QV J J J fT3 J (Zc (n := 2) J J J J (Nat.le_of_ble_eq_true J) lWh J (Xh [(5, _)] goshare hsh1 J J J hbor J J (hfix _) (fun _ _ => ?_)))))))); skip
      refine Xu j J J J (by rw [Zz]; simp) J sFracs (by omega) (by omega) J ?_
      refine stFr J J J J (by simp; omega) szFrac ?_
      rw [show (List.replicate j (some (0 : Rat))).set cs.toNat (some (shq T.den T.den)) = (raS T j s 0).map some by rw [r0, List.map_set, List.map_replicate]]; refine Qj (hK _ _ ?_); clear hK K; exact XV hN () trivial (by exact Qu J ⟨rfl, rfl, rfl, rfl, trivial⟩)
    · rw [if_neg h2] at r0
      refine QU ?_
      exact XV hN () trivial (by exact Qu (by rw [r0, List.map_replicate]) ⟨rfl, rfl, rfl, rfl, trivial⟩)
end Go.Proofs.YtdhmbgogmoaofaaGreat
namespace Go.Own
open Go.RowKit
inductive Oq where
  | done
  | non
  | p (i : Nat) (r : Oq)
  | f (i : Nat) (r : Oq)
  | m (i : Nat) (r o : Oq)
  | a (i : Nat) (r o : Oq)
def wpQ (P : Program) (l : List Oper) (K : Act → World → Prop) : Oq → Act → World → Prop
  | .done, a, w => K a w
  | .non, _, _ => True
  | .p i r, a, w => ∃ v, Yields P l.toArray (nth l i) v a ∧ wpQ P l K r (a.put (nth l i).dst v) w
  | .f i r, a, w => ∃ v, YieldsIf P l.toArray (fun w' => Below w.heap.size w w') (nth l i) v a ∧ wpQ P l K r (a.put (nth l i).dst v) w
  | .m i r o, a, w => wpO P l.toArray (fun a' w' => Below w.heap.size w w' ∧ wpQ P l K r a' w') (nth l i) a w ∧ wpQ P l K o a w
  | .a i r o, a, w => wpO P l.toArray (fun a' w' => wpQ P l K r a' w') (nth l i) a w ∧ wpQ P l K o a w
def altsQ : Oq → List Nat
  | .m i _ o => i :: altsQ o
  | .a i _ o => i :: altsQ o
  | _ => []
def chkQ (ops : Array Oper) (late : List Nat) : Bool → Oq → Nat → Array Bool → Bool
  | true, .done, _, listed => (Region.ready .any ops listed).isEmpty
  | true, .p i r, n + 1, listed => (Region.ready .any ops listed).contains i && Region.free .any ops listed i && chkQ ops late true r n (listed.setIfInBounds i true)
  | true, .f i r, n + 1, listed => (Region.ready .any ops listed).contains i && Region.free .any ops listed i && waitsL ops late listed i && chkQ ops late true r n (listed.setIfInBounds i true)
  | tp, .m i r o, n + 1, listed => (!tp || Region.ready .any ops listed == altsQ (.m i r o)) && !late.contains i && chkQ ops late true r n (listed.setIfInBounds i true) && chkQ ops late false o (n + 1) listed
  | tp, .a i r o, n + 1, listed => (!tp || Region.ready .any ops listed == altsQ (.a i r o)) && late.contains i && chkQ ops late true r n (listed.setIfInBounds i true) && chkQ ops late false o (n + 1) listed
  | false, .non, _, _ => true
  | _, _, _, _ => false
theorem anyL_ofQ {P : Program} {l : List Oper} {K : Act → World → Prop} {late : List Nat} (hs : Region.noSelect l.toArray = true) :
    ∀ (ord : Oq) (fuel : Nat) (listed : Array Bool) (a : Act) (w : World), Shut l.toArray listed →
      (chkQ l.toArray late true ord fuel listed = true → wpQ P l K ord a w → wpAnyL P l.toArray K late fuel listed a w) ∧
      (∀ f, fuel = f + 1 → chkQ l.toArray late false ord fuel listed = true → wpQ P l K ord a w → ∀ j ∈ altsQ ord, j ∈ Region.ready .any l.toArray listed → wpOp P l.toArray (only K) j (fun a' w' => (late.contains j = false → Below w.heap.size w w') ∧ wpAnyL P l.toArray K late f (listed.setIfInBounds j true) a' w') a w) := by
  have hidx : ∀ {listed : Array Bool} {i : Nat}, i ∈ Region.ready .any l.toArray listed → l.toArray[i]? = some (nth l i) := fun h => nth_eq (by simpa using ready_lt h)
  intro ord
  induction ord with
  | done =>
    intro fuel listed a w _; refine ⟨fun hc h => ?_, fun f hf hc h j hj => by cases hj⟩
    have hr : Region.ready .any l.toArray listed = [] := by
      cases fuel <;> simpa [chkQ] using hc
    cases fuel with
    | zero => exact ⟨hr, h⟩
    | succ f => exact ⟨fun _ => h, by rw [hr]; simp⟩
  | non => intro fuel listed a w _; exact ⟨fun hc h => by simp [chkQ] at hc, fun f hf hc h j hj => by cases hj⟩
  | p i r ih =>
    intro fuel listed a w hsh; refine ⟨fun hc h => ?_, fun f hf hc h j hj => by cases hj⟩
    cases fuel with
    | zero => simp [chkQ] at hc
    | succ f =>
      simp only [chkQ, Bool.and_eq_true] at hc; obtain ⟨⟨hr, hfr⟩, hc2⟩ := hc
      have hr' : i ∈ Region.ready .any l.toArray listed := by simpa using hr
      obtain ⟨v, hy, h⟩ := h; exact wpAnyL_firstP (hidx hr') (Region.noSelect_spec hs) f listed a w (Region.free_spec (hidx hr') hfr) hr' hy ((ih f _ _ _ (hsh.step hr')).1 hc2 h)
  | f i r ih =>
    intro fuel listed a w hsh; refine ⟨fun hc h => ?_, fun f hf hc h j hj => by cases hj⟩
    cases fuel with
    | zero => simp [chkQ] at hc
    | succ f =>
      simp only [chkQ, Bool.and_eq_true] at hc; obtain ⟨⟨⟨hr, hfr⟩, hw⟩, hc2⟩ := hc
      have hr' : i ∈ Region.ready .any l.toArray listed := by simpa using hr
      obtain ⟨v, hy, h⟩ := h; exact wpAnyL_first (hidx hr') (Region.noSelect_spec hs) hw f listed a w hsh (fun _ h => h) (Region.free_spec (hidx hr') hfr) hr' hy ((ih f _ _ _ (hsh.step hr')).1 hc2 h)
  | m i r o ih1 ih2 =>
    have key : ∀ (fuel : Nat) (listed : Array Bool) (a : Act) (w : World), Shut l.toArray listed → ∀ f, fuel = f + 1 → chkQ l.toArray late false (.m i r o) fuel listed = true → wpQ P l K (.m i r o) a w → ∀ j ∈ altsQ (.m i r o), j ∈ Region.ready .any l.toArray listed → wpOp P l.toArray (only K) j (fun a' w' => (late.contains j = false → Below w.heap.size w w') ∧ wpAnyL P l.toArray K late f (listed.setIfInBounds j true) a' w') a w := by
      intro fuel listed a w hsh f hf hc h j hj hr; subst hf; simp only [chkQ, Bool.and_eq_true] at hc; obtain ⟨⟨_, hc1⟩, hc2⟩ := hc; rcases List.mem_cons.1 hj with rfl | hj
      · exact Zi (hidx hr) (Zm h.1 fun a' w' h' => ⟨fun _ => h'.1, (ih1 f _ _ _ (hsh.step hr)).1 hc1 h'.2⟩)
      · exact (ih2 (f + 1) listed a w hsh).2 f J hc2 h.2 j hj hr
    intro fuel listed a w hsh; refine ⟨fun hc h => ?_, key fuel listed a w hsh⟩
    cases fuel with
    | zero => simp [chkQ] at hc
    | succ f =>
      simp only [chkQ, Bool.and_eq_true, Bool.not_true, Bool.false_or, beq_iff_eq] at hc; obtain ⟨⟨⟨hr, hN⟩, hc1⟩, hc2⟩ := hc; refine ⟨(fun h0 => by rw [hr] at h0; simp [altsQ] at h0), fun j hj => ?_⟩; exact key (f + 1) listed a w hsh f J (by simp only [chkQ, hN, hc1, hc2, Bool.not_false, Bool.true_or, Bool.and_self]) h j (by rw [← hr]; exact hj) hj
  | a i r o ih1 ih2 =>
    have key : ∀ (fuel : Nat) (listed : Array Bool) (a : Act) (w : World), Shut l.toArray listed → ∀ f, fuel = f + 1 → chkQ l.toArray late false (.a i r o) fuel listed = true → wpQ P l K (.a i r o) a w → ∀ j ∈ altsQ (.a i r o), j ∈ Region.ready .any l.toArray listed → wpOp P l.toArray (only K) j (fun a' w' => (late.contains j = false → Below w.heap.size w w') ∧ wpAnyL P l.toArray K late f (listed.setIfInBounds j true) a' w') a w := by
      intro fuel listed a w hsh f hf hc h j hj hr; subst hf; simp only [chkQ, Bool.and_eq_true] at hc; obtain ⟨⟨⟨_, hl⟩, hc1⟩, hc2⟩ := hc; rcases List.mem_cons.1 hj with rfl | hj
      · exact Zi (hidx hr) (Zm h.1 fun a' w' h' => ⟨(fun hlt => by rw [hlt] at hl; cases hl), (ih1 f _ _ _ (hsh.step hr)).1 hc1 h'⟩)
      · exact (ih2 (f + 1) listed a w hsh).2 f J hc2 h.2 j hj hr
    intro fuel listed a w hsh; refine ⟨fun hc h => ?_, key fuel listed a w hsh⟩
    cases fuel with
    | zero => simp [chkQ] at hc
    | succ f =>
      simp only [chkQ, Bool.and_eq_true, Bool.not_true, Bool.false_or, beq_iff_eq] at hc; obtain ⟨⟨⟨hr, hN⟩, hc1⟩, hc2⟩ := hc; refine ⟨(fun h0 => by rw [hr] at h0; simp [altsQ] at h0), fun j hj => ?_⟩; exact key (f + 1) listed a w hsh f J (by simp only [chkQ, hN, hc1, hc2, Bool.not_false, Bool.true_or, Bool.and_self]) h j (by rw [← hr]; exact hj) hj
variable {X : Ctx} {L : AL} {B : BL} {K : Act → World → Prop}
theorem St.drawQ {id : Nat} {l : List Oper} {Q : Exit → Act → World → Prop} (hm : X.P.follows .mixedOrders = true) (late : List Nat) (ord : Oq)
    (hc : (Region.noSelect l.toArray && chkQ l.toArray late true ord l.length (Array.replicate l.length false)) = true)
    (h : ∀ K, (∀ L' B', Fin X L' B' (fun a w => Q .normal a w) → Fin X L' B' K) → Fin X L B (wpQ X.P l K ord)) : St X L B (.region id l.toArray true) Q := by
  intro a ρ w hI; simp only [Bool.and_eq_true] at hc; obtain ⟨hs, hc⟩ := hc; have h1 := h _ (fun _ _ h => h) a ρ _ (hI.below (Below.drewOnce w)); have h2 := (anyL_ofQ hs ord l.length _ a _ (Shut.start _ _)).1 hc h1; have h3 := wpAny_of_L _ _ _ _ h2
  refine Go.wp_mono (wp_region_any (Q := only fun a w => Q .normal a w) hm ?_) ?_
  · simpa using h3
  · intro e a w h
    cases e with
    | normal => exact h
    | exit _ => exact h.elim
    | goto _ => exact h.elim
    | ret => exact h.elim
    | panic _ => exact h.elim
    | outgrown => exact h.elim
theorem X4 {l : List Oper} (h : Fin X L B K) : Fin X L B (wpQ X.P l K .done) := h
theorem Q8 {l : List Oper} : Fin X L B (wpQ X.P l K .non) := fun _ _ _ _ => trivial
theorem Qm {l : List Oper} {i : Nat} {r : Oq} (h : Ops X l.toArray (.cons (nth l i) .pure .nil) L B (wpQ X.P l K r)) : Fin X L B (wpQ X.P l K (.p i r)) := h
theorem Fin.qf {l : List Oper} {i : Nat} {r : Oq} (h : Ops X l.toArray (.cons (nth l i) .free .nil) L B (wpQ X.P l K r)) : Fin X L B (wpQ X.P l K (.f i r)) := h
theorem X5 {l : List Oper} {i : Nat} {r o : Oq} (h : Ops X l.toArray (.cons (nth l i) .makes .nil) L B (wpQ X.P l K r)) (h2 : Fin X L B (wpQ X.P l K o)) : Fin X L B (wpQ X.P l K (.m i r o)) := fun a ρ w hI => ⟨h a ρ w hI, h2 a ρ w hI⟩
theorem Xx {l : List Oper} {i : Nat} {r o : Oq} (h : Ops X l.toArray (.cons (nth l i) .any .nil) L B (wpQ X.P l K r)) (h2 : Fin X L B (wpQ X.P l K o)) : Fin X L B (wpQ X.P l K (.a i r o)) := fun a ρ w hI => ⟨h a ρ w hI, h2 a ρ w hI⟩
variable {ops : Array Oper} {r : Pl} {k : Kd} {x y z : Operand} {d : Nat} {t t2 t' : TypeId} {pos : String} {af : Array Edge} {g : Option (Nat × Bool)}
theorem Ops.makeX (i m : Nat) {el n bytes : Nat} {zv : Value} {j : Int} (hk : k.mk = true) (hg : gd ops L g = some true) (hx : ev L x = some (.ct (.ex (.int .i64 j)))) (hm : j = (m : Int)) (hT : SlcT X.P t el n bytes zv) (hb : bytes * m ≤ 140737488355328) (hmx : m ≤ 140737488355328) (hN : noN i L = true) (hB : bget B i = none) (hn : Nat.blt d X.n = true)
    (h : ∀ gb, Ops X ops r ((d, .ct (.ex (.slice (some ⟨gb, 0, none⟩) m m))) :: L) ((i, .rowx (.slice (some ⟨gb, 0, none⟩) m m) el n (zinit zv m)) :: B) K) : Ops X ops (.cons ⟨some d, .makeSlice t x x, t', pos, af, g⟩ k r) L B K := fun a ρ w hI => by
  refine wpX_makes k hk ?_
  unfold wpO
  rw [if_pos (Zp (o := ⟨some d, _, t', pos, af, g⟩) hI hg)]
  unfold Oper.wp
  obtain ⟨nf, h1, h2, h3, h4⟩ := hT.inf
  obtain ⟨w', h5, h6, h7⟩ := run_make_full (P := X.P) w 0 t el nf zv n hT.und h1 h4 h2 .i64 .i64 m (by rw [h3]; omega) (by simp only [maxLen]; omega) (Nat.zero_le _)
  have hbel : Below w.heap.size w w' := (Below.refl _ _).grown h7 (Nat.le_refl _) (fun _ hk => by cases hk)
  have hrun : (execOp a.eval ⟨some d, .makeSlice t x x, t', pos, af, g⟩).run X.P w = .ok (.value (.slice (some ⟨w.heap.size, 0, none⟩) m m)) w' := by
    show (do pure (Next.value (← Instr.makeSlice t (a.eval x) (a.eval x))) : Sem Next).run X.P w = _; rw [hI.evx hx, hm]; exact ZQ h5
  rw [hrun]; have hW := hI.new (v := .slice (some ⟨w.heap.size, 0, none⟩) m m) (e := .rowx (.slice (some ⟨w.heap.size, 0, none⟩) m m) el n (zinit zv m)) hN hB hbel (fun g hg => by injection hg with hg; subst hg; exact Nat.le_refl _) (fun S' _ => ⟨rfl, m, _, h6, by rw [Yc, ← hT.zs, made_flat]; exact Y9 _⟩); exact ⟨hbel, h w.heap.size _ _ w' (hW.put (s := .ct (.ex _)) (ZV hn) J)⟩
end Go.Own
namespace Go.Proofs.YtdhmbgogmoaofaaGreat
open Go.Own Go.Limbs
attribute [local irreducible] St Ops Go.Own.Fin Ok
theorem goInt : InGo Tryz.prog 164 := InGo.of Tryz.func164 (by kernel_rfl) (by kernel_rfl)
def rnd (a b : Nat) (up : Bool) : Nat := if up = true ∧ a % b ≠ 0 then a / b + 1 else a / b
def fr0 : Fr := ⟨false, 0, 1⟩
structure Rw where
  cs : List Int
  b : Int
def rw0 : Rw := ⟨[], 0⟩
abbrev rwCs (r : Rw) : List CT := [intsC r.cs, intC r.b]
abbrev rowC (r : Rw) : CT := .fr (aggT (rwCs r))
abbrev rowsC (rs : List Rw) : CT := .fr (sliceT 2 (rs.map rwCs))
theorem map_at {α : Type} (f : α → List CT) (z : α) {xs : List α} {j : Int} (h0 : 0 ≤ j) (h : j < (xs.length : Int)) : (xs.map f)[j.toNat]? = some (f (xs.getD j.toNat z)) := by
  have : j.toNat < xs.length := by omega
  simp [List.getElem?_map, List.getElem?_eq_getElem this, List.getD_eq_getElem?_getD]
theorem fracs_at {fs : List Fr} {j : Int} (h0 : 0 ≤ j) (h : j < (fs.length : Int)) : (fs.map frCs)[j.toNat]? = some (frCs (fs.getD j.toNat fr0)) := map_at frCs fr0 h0 h
theorem Zf {rs : List Rw} {j : Int} (h0 : 0 ≤ j) (h : j < (rs.length : Int)) : (rs.map rwCs)[j.toNat]? = some (rwCs (rs.getD j.toNat rw0)) := map_at rwCs rw0 h0 h
def tw (m : Int) : Rat := mkRat m 12
def tf (m : Int) : Fr := ofQ (tw m)
abbrev twC (m : Int) : CT := fracC (tf m)
abbrev twsC (ms : List Int) : CT := .fr (sliceT 3 (ms.map fun m => frCs (tf m)))
def Tb (m : Int) : Prop := m.natAbs < 1180591620717411303424
def idxI {α : Type} (p : α → Bool) (xs : List α) : Int := if xs.any p then (xs.findIdx p : Nat) else -1
theorem idxI_hit {α : Type} {p : α → Bool} {xs : List α} {z : α} {i : Nat} (h : i < xs.length) (hp : p (xs.getD i z) = true) (hn : ∀ j, j < i → p (xs.getD j z) = false) : idxI p xs = i := by
  have e : ∀ j (hj : j < xs.length), xs.getD j z = xs[j] := fun j hj => by simp [List.getD_eq_getElem?_getD, List.getElem?_eq_getElem hj]
  unfold idxI; rw [if_pos (List.any_eq_true.mpr ⟨xs[i], List.getElem_mem h, by rw [← e i h]; exact hp⟩)]
  congr 1
  rw [List.findIdx_eq h]; exact ⟨by rw [← e i h]; exact hp, fun j hj => by rw [← e j (by omega)]; exact hn j hj⟩
theorem idxI_miss {α : Type} {p : α → Bool} {xs : List α} {z : α} (hn : ∀ j, j < xs.length → p (xs.getD j z) = false) : idxI p xs = -1 := by
  have e : ∀ j (hj : j < xs.length), xs.getD j z = xs[j] := fun j hj => by simp [List.getD_eq_getElem?_getD, List.getElem?_eq_getElem hj]
  unfold idxI; rw [if_neg]; rw [Bool.not_eq_true, List.any_eq_false]; intro x hx; obtain ⟨j, hj, rfl⟩ := List.getElem_of_mem hx; rw [← e j hj, hn j hj]; decide
theorem idxI_any {α : Type} (p : α → Bool) (xs : List α) : decide (0 ≤ idxI p xs) = xs.any p := by
  unfold idxI; split
  · rename_i h; rw [h]; simp
  · rename_i h; simp at h; rw [show decide ((0 : Int) ≤ -1) = false by decide]; symm; rw [List.any_eq_false]; simpa using h
theorem X1 {α : Type} {xs : List α} {z : α} {i : Nat} (h : i < xs.length) : xs.getD i z ∈ xs := by
  simp [List.getD_eq_getElem?_getD, List.getElem?_eq_getElem h]
set_option maxHeartbeats 2000000 in
theorem IndexFunc_ints (xs : List Int) (f : FuncId) (p : Int → Bool) (hgo : InGo Tryz.prog f) (hf : ∀ x ∈ xs, Ok Tryz.prog f [intC x] (boolC (p x))) (hl : xs.length < 4611686018427387904) : Ok Tryz.prog 148 [intsC xs, (.ex (.func (.func f) #[] #[]))] (intC (idxI p xs)) := by
  refine Ok.enter Tryz.func148 J _ Tryz.ntmps148 J ?_
  intro S w; refine Qy (Qx fun K hK => ?_); refine Qv J J J (Qj (hK _ _ (Qz (Qy (Qy ?_))))); clear hK K; refine Qx (fun K hK => ?_); refine Qq J J J (Q7 J J sInts.und (List.length_map ..) J (Qq J J J (Qj (hK _ _ (Qz (Q0 ?_)))))); clear hK K
  refine Xq (α := Nat) (fun i => i ≤ xs.length ∧ ∀ j, j < i → p (xs.getD j 0) = false)
    (fun i => [(0, .ct (intsC xs)), (1, .ct (.ex (.func (.func f) #[] #[]))), (7, .ct (intC xs.length)), (8, .ct (intC i))]) (fun _ => []) (fun i => xs.length - i) 0 ⟨Nat.zero_le _, fun j h => absurd h (Nat.not_lt_zero j)⟩ (by exact Qu J ⟨rfl, rfl, rfl, rfl, trivial⟩) ?_
  intro i ⟨hi, hv⟩; dsimp only; refine Qy (Qx fun K hK => ?_); refine Qw ilss J J J J (Qj (hK _ _ (Qz (Qy ?_)))); clear hK K; refine QK J (fun h => ?_) (fun h => ?_)
  · have e2 : (i : Int).toNat = i := Int.toNat_natCast i; refine QU (Qz (Qy (Q0 (Qy (Qx fun K hK => ?_))))); refine Qq J J J (Qv J J J (Qj (hK _ _ (Qz (Qy ?_))))); clear hK K; refine Qx (fun K hK => ?_); refine Qq J J J (Qq J J J (Qq J J J (Qh J J J sInts (by omega) (X3 (by omega) (by omega)) J ?_)))
    refine Xz J J J lInt J ?_
    rw [e2]; skip
    refine Ops.callF hgo J (hf _ (X1 (by omega))) J J J J ?_
    refine Qj (hK _ _ (Qz ?_)); clear hK K; refine Za J (fun h2 => ?_) (fun h2 => ?_)
    · refine Qy (Qx fun K hK => ?_); refine Qq J J J (Qv J J J (Qj (hK _ _ (Qz (Q2 (Qe (QW (QW (Qe (QW ?_)))))))))); clear hK K; refine Q1 [_] rfl (QZ J QX) (by rw [idxI_hit (by omega) h2 hv]; rfl) J
    · refine QU (Qz (Qx fun K hK => ?_))
      refine Qw (iadd (by omega) (by omega)) J J J J ?_
      refine Qq J J J (Qj (hK _ _ (Q4 ?_))); clear hK K; refine Qb (i + 1) (by omega) ⟨by omega, ?_⟩ (by exact Qu J ⟨rfl, rfl, rfl, by simp only [Int.natCast_add]; rfl, trivial⟩); intro j hj; rcases Nat.lt_or_ge j i with h3 | h3
      · exact hv j h3
      · have : j = i := by omega
        rw [this]; exact h2
  · have hi' : i = xs.length := by omega
    refine Qr (Qz (Qy (Qx fun K hK => ?_))); refine Qv J J J (Qj (hK _ _ (Qz (Q2 ?_)))); clear hK K; refine Q1 [_] rfl (QZ J QX) (by rw [idxI_miss (fun j hj => hv j (by omega))]; rfl) J
theorem goIndexFunc_ints : InGo Tryz.prog 148 := InGo.of Tryz.func148 (by kernel_rfl) (by kernel_rfl)
theorem ContainsFunc_ints (xs : List Int) (f : FuncId) (p : Int → Bool) (hgo : InGo Tryz.prog f) (hf : ∀ x ∈ xs, Ok Tryz.prog f [intC x] (boolC (p x))) (hl : xs.length < 4611686018427387904) : Ok Tryz.prog 106 [intsC xs, (.ex (.func (.func f) #[] #[]))] (boolC (xs.any p)) := by
  refine Ok.enter Tryz.func106 J _ Tryz.ntmps106 J ?_
  intro S w; refine Qy (Qx fun K hK => ?_); refine Qv J J J (Qj (hK _ _ (Qz (Qy ?_)))); clear hK K; refine Qx (fun K hK => ?_); refine Qq J J J (Qq J J J (QQ goIndexFunc_ints (IndexFunc_ints xs f p hgo hf hl) J J J J (Qw igeq J J J J (Qv J J J (Qj (hK _ _ (Qz (Q2 ?_)))))))); clear hK K; refine Q1 [_] rfl (QZ J QX) (by rw [← idxI_any]; rfl) J
theorem goContainsFunc_ints : InGo Tryz.prog 106 := InGo.of Tryz.func106 (by kernel_rfl) (by kernel_rfl)
set_option maxHeartbeats 2000000 in
theorem IndexFunc_fracs (xs : List Fr) (f : FuncId) (p : Fr → Bool) (hgo : InGo Tryz.prog f) (hf : ∀ x ∈ xs, Ok Tryz.prog f [fracC x] (boolC (p x))) (hl : xs.length < 4611686018427387904) : Ok Tryz.prog 118 [fracsC xs, (.ex (.func (.func f) #[] #[]))] (intC (idxI p xs)) := by
  refine Ok.enter Tryz.func118 J _ Tryz.ntmps118 J ?_
  intro S w; refine Qy (Qx fun K hK => ?_); refine Qv J J J (Qj (hK _ _ (Qz (Qy (Qy ?_))))); clear hK K; refine Qx (fun K hK => ?_); refine Qq J J J (Q7 J J sFracs.und (List.length_map ..) J (Qq J J J (Qj (hK _ _ (Qz (Q0 ?_)))))); clear hK K
  refine Xq (α := Nat) (fun i => i ≤ xs.length ∧ ∀ j, j < i → p (xs.getD j fr0) = false)
    (fun i => [(0, .ct (fracsC xs)), (1, .ct (.ex (.func (.func f) #[] #[]))), (7, .ct (intC xs.length)), (8, .ct (intC i))]) (fun _ => []) (fun i => xs.length - i) 0 ⟨Nat.zero_le _, fun j h => absurd h (Nat.not_lt_zero j)⟩ (by exact Qu J ⟨rfl, rfl, rfl, rfl, trivial⟩) ?_
  intro i ⟨hi, hv⟩; dsimp only; refine Qy (Qx fun K hK => ?_); refine Qw ilss J J J J (Qj (hK _ _ (Qz (Qy ?_)))); clear hK K; refine QK J (fun h => ?_) (fun h => ?_)
  · have e2 : (i : Int).toNat = i := Int.toNat_natCast i; refine QU (Qz (Qy (Q0 (Qy (Qx fun K hK => ?_))))); refine Qq J J J (Qv J J J (Qj (hK _ _ (Qz (Qy ?_))))); clear hK K; refine Qx (fun K hK => ?_); refine Qq J J J (Qq J J J (Qq J J J (Qh J J J sFracs (by omega) (fracs_at (by omega) (by omega)) J ?_)))
    refine Xd (n := 3) J J J Xy J J ?_
    rw [e2]; skip
    refine Ops.callF hgo J (hf _ (X1 (by omega))) J J J J ?_
    refine Qj (hK _ _ (Qz ?_)); clear hK K; refine Za J (fun h2 => ?_) (fun h2 => ?_)
    · refine Qy (Qx fun K hK => ?_); refine Qq J J J (Qv J J J (Qj (hK _ _ (Qz (Q2 (Qe (QW (QW (Qe (QW ?_)))))))))); clear hK K; refine Q1 [_] rfl (QZ J QX) (by rw [idxI_hit (by omega) h2 hv]; rfl) J
    · refine QU (Qz (Qx fun K hK => ?_))
      refine Qw (iadd (by omega) (by omega)) J J J J ?_
      refine Qq J J J (Qj (hK _ _ (Q4 ?_))); clear hK K; refine Qb (i + 1) (by omega) ⟨by omega, ?_⟩ (by exact Qu J ⟨rfl, rfl, rfl, by simp only [Int.natCast_add]; rfl, trivial⟩); intro j hj; rcases Nat.lt_or_ge j i with h3 | h3
      · exact hv j h3
      · have : j = i := by omega
        rw [this]; exact h2
  · have hi' : i = xs.length := by omega
    refine Qr (Qz (Qy (Qx fun K hK => ?_))); refine Qv J J J (Qj (hK _ _ (Qz (Q2 ?_)))); clear hK K; refine Q1 [_] rfl (QZ J QX) (by rw [idxI_miss (fun j hj => hv j (by omega))]; rfl) J
theorem goIndexFunc_fracs : InGo Tryz.prog 118 := InGo.of Tryz.func118 (by kernel_rfl) (by kernel_rfl)
theorem ContainsFunc_fracs (xs : List Fr) (f : FuncId) (p : Fr → Bool) (hgo : InGo Tryz.prog f) (hf : ∀ x ∈ xs, Ok Tryz.prog f [fracC x] (boolC (p x))) (hl : xs.length < 4611686018427387904) : Ok Tryz.prog 62 [fracsC xs, (.ex (.func (.func f) #[] #[]))] (boolC (xs.any p)) := by
  refine Ok.enter Tryz.func62 J _ Tryz.ntmps62 J ?_
  intro S w; refine Qy (Qx fun K hK => ?_); refine Qv J J J (Qj (hK _ _ (Qz (Qy ?_)))); clear hK K; refine Qx (fun K hK => ?_); refine Qq J J J (Qq J J J (QQ goIndexFunc_fracs (IndexFunc_fracs xs f p hgo hf hl) J J J J (Qw igeq J J J J (Qv J J J (Qj (hK _ _ (Qz (Q2 ?_)))))))); clear hK K; refine Q1 [_] rfl (QZ J QX) (by rw [← idxI_any]; rfl) J
theorem goContainsFunc_fracs : InGo Tryz.prog 62 := InGo.of Tryz.func62 (by kernel_rfl) (by kernel_rfl)
set_option maxHeartbeats 2000000 in
theorem IndexFunc_rows (xs : List Rw) (f : FuncId) (caps : List CT) (p : Rw → Bool) (hgo : InGo Tryz.prog f) (hf : ∀ x ∈ xs, Ok Tryz.prog f ([rowC x] ++ caps) (boolC (p x))) (hl : xs.length < 4611686018427387904) : Ok Tryz.prog 139 [rowsC xs, (.fr (closT f caps))] (intC (idxI p xs)) := by
  refine Ok.enter Tryz.func139 J _ Tryz.ntmps139 J ?_
  intro S w; refine Qy (Qx fun K hK => ?_); refine Qv J J J (Qj (hK _ _ (Qz (Qy (Qy ?_))))); clear hK K; refine Qx (fun K hK => ?_); refine Qq J J J (Q7 J J sRows.und (List.length_map ..) J (Qq J J J (Qj (hK _ _ (Qz (Q0 ?_)))))); clear hK K
  refine Xq (α := Nat) (fun i => i ≤ xs.length ∧ ∀ j, j < i → p (xs.getD j rw0) = false)
    (fun i => [(0, .ct (rowsC xs)), (1, .ct (.fr (closT f caps))), (7, .ct (intC xs.length)), (8, .ct (intC i))]) (fun _ => []) (fun i => xs.length - i) 0 ⟨Nat.zero_le _, fun j h => absurd h (Nat.not_lt_zero j)⟩ (by exact Qu J ⟨rfl, rfl, rfl, rfl, trivial⟩) ?_
  intro i ⟨hi, hv⟩; dsimp only; refine Qy (Qx fun K hK => ?_); refine Qw ilss J J J J (Qj (hK _ _ (Qz (Qy ?_)))); clear hK K; refine QK J (fun h => ?_) (fun h => ?_)
  · have e2 : (i : Int).toNat = i := Int.toNat_natCast i; refine QU (Qz (Qy (Q0 (Qy (Qx fun K hK => ?_))))); refine Qq J J J (Qv J J J (Qj (hK _ _ (Qz (Qy ?_))))); clear hK K; refine Qx (fun K hK => ?_); refine Qq J J J (Qq J J J (Qq J J J (Qh J J J sRows (by omega) (Zf (by omega) (by omega)) J ?_)))
    refine Xd (n := 2) J J J lRow J J ?_
    rw [e2]; skip
    refine Ops.callC hgo J (hf _ (X1 (by omega))) J J J J ?_
    refine Qj (hK _ _ (Qz ?_)); clear hK K; refine Za J (fun h2 => ?_) (fun h2 => ?_)
    · refine Qy (Qx fun K hK => ?_); refine Qq J J J (Qv J J J (Qj (hK _ _ (Qz (Q2 (Qe (QW (QW (Qe (QW ?_)))))))))); clear hK K; refine Q1 [_] rfl (QZ J QX) (by rw [idxI_hit (by omega) h2 hv]; rfl) J
    · refine QU (Qz (Qx fun K hK => ?_))
      refine Qw (iadd (by omega) (by omega)) J J J J ?_
      refine Qq J J J (Qj (hK _ _ (Q4 ?_))); clear hK K; refine Qb (i + 1) (by omega) ⟨by omega, ?_⟩ (by exact Qu J ⟨rfl, rfl, rfl, by simp only [Int.natCast_add]; rfl, trivial⟩); intro j hj; rcases Nat.lt_or_ge j i with h3 | h3
      · exact hv j h3
      · have : j = i := by omega
        rw [this]; exact h2
  · have hi' : i = xs.length := by omega
    refine Qr (Qz (Qy (Qx fun K hK => ?_))); refine Qv J J J (Qj (hK _ _ (Qz (Q2 ?_)))); clear hK K; refine Q1 [_] rfl (QZ J QX) (by rw [idxI_miss (fun j hj => hv j (by omega))]; rfl) J
theorem goIndexFunc_rows : InGo Tryz.prog 139 := InGo.of Tryz.func139 (by kernel_rfl) (by kernel_rfl)
theorem ContainsFunc_rows (xs : List Rw) (f : FuncId) (caps : List CT) (p : Rw → Bool) (hgo : InGo Tryz.prog f) (hf : ∀ x ∈ xs, Ok Tryz.prog f ([rowC x] ++ caps) (boolC (p x))) (hl : xs.length < 4611686018427387904) : Ok Tryz.prog 89 [rowsC xs, (.fr (closT f caps))] (boolC (xs.any p)) := by
  refine Ok.enter Tryz.func89 J _ Tryz.ntmps89 J ?_
  intro S w; refine Qy (Qx fun K hK => ?_); refine Qv J J J (Qj (hK _ _ (Qz (Qy ?_)))); clear hK K; refine Qx (fun K hK => ?_); refine Qq J J J (Qq J J J (QQ goIndexFunc_rows (IndexFunc_rows xs f caps p hgo hf hl) J J J J (Qw igeq J J J J (Qv J J J (Qj (hK _ _ (Qz (Q2 ?_)))))))); clear hK K; refine Q1 [_] rfl (QZ J QX) (by rw [← idxI_any]; rfl) J
theorem goContainsFunc_rows : InGo Tryz.prog 89 := InGo.of Tryz.func89 (by kernel_rfl) (by kernel_rfl)
def badC (x : Int) : Bool := decide (x < -1048576) || decide (1048576 < x)
theorem validCoeffs1_ok (x : Int) : Ok Tryz.prog 121 [intC x] (boolC (badC x)) := by
  refine Ok.enter Tryz.func121 J _ Tryz.ntmps121 J ?_
  intro S w; refine Qy (Qx fun K hK => ?_); refine Qv J J J (Qj (hK _ _ (Qz (Qy ?_)))); clear hK K; refine Qx (fun K hK => ?_); refine Qq J J J (Qw ilss J J J J (Qq J J J (Qp 5 J (fun h => ?_) (fun h => ?_))))
  · refine Qk J J J (Qk J J J (Qc J J J J (Qv J J J (Qj (hK _ _ (Qz (Q2 ?_))))))); clear hK K; refine Q1 [_] rfl (QZ J QX) (by unfold badC; rw [decide_eq_true h]; rfl) J
  · refine Qq J J J (Qw igtr J J J J (Q6 J J J J (Qv J J J (Qj (hK _ _ (Qz (Q2 ?_))))))); clear hK K; refine Q1 [_] rfl (QZ J QX) (by unfold badC; rw [decide_eq_false h]; rfl) J
theorem govalidCoeffs1 : InGo Tryz.prog 121 := InGo.of Tryz.func121 (by kernel_rfl) (by kernel_rfl)
def okCoeffs (n : Int) (xs : List Int) : Bool := decide ((xs.length : Int) ≤ n) && !xs.any badC
theorem validCoeffs_ok (n : Int) (xs : List Int) (hl : xs.length < 4611686018427387904) : Ok Tryz.prog 67 [intC n, intsC xs] (boolC (okCoeffs n xs)) := by
  refine Ok.enter Tryz.func67 J _ Tryz.ntmps67 J ?_
  intro S w; refine Qy (Qx fun K hK => ?_); refine Qv J J J (Qj (hK _ _ (Qz (Qy ?_)))); clear hK K; refine Qx (fun K hK => ?_); refine Qq J J J (Q7 J J sInts.und (List.length_map ..) J (Qq J J J (Qw ileq J J J J (Qq J J J (Qp 9 J (fun h => ?_) (fun h => ?_))))))
  · refine Qq J J J (QQ goContainsFunc_ints (ContainsFunc_ints xs _ badC govalidCoeffs1 (fun x _ => validCoeffs1_ok x) hl) J J J J ?_); refine Xj J J J (Qc J J J J (Qv J J J (Qj (hK _ _ (Qz (Q2 ?_)))))); clear hK K; refine Q1 [_] rfl (QZ J QX) (by unfold okCoeffs; rw [decide_eq_true h]; rfl) J
  · refine Qk J J J (Qk J J J (Qk J J J (Q6 J J J J (Qv J J J (Qj (hK _ _ (Qz (Q2 ?_)))))))); clear hK K; refine Q1 [_] rfl (QZ J QX) (by unfold okCoeffs; rw [decide_eq_false h]; rfl) J
theorem govalidCoeffs : InGo Tryz.prog 67 := InGo.of Tryz.func67 (by kernel_rfl) (by kernel_rfl)
end Go.Proofs.YtdhmbgogmoaofaaGreat
namespace Go.Own
variable {X : Ctx} {L : AL} {B : BL} {ops : Array Oper} {K : Act → World → Prop} {r : Pl} {k : Kd}
  {x y z : Operand} {d : Nat} {t t2 t' : TypeId} {pos : String} {af : Array Edge} {g : Option (Nat × Bool)}
theorem Xw {l : Pl} (dd i m : Nat) {el n : Nat} {cs : List CT} (hd : look L dd = some (.own i)) (hi : bget B i = some (.row el n cs)) (hl : cs.length = m * n) (hm : 0 < m) (hp : 0 < n)
    (h : ∀ gb c, m ≤ c → c ≤ maxLen → Ops X ops l ((dd, .ct (.ex (.slice (some ⟨gb, 0, none⟩) m c))) :: L) (bset B i (.rowx (.slice (some ⟨gb, 0, none⟩) m c) el n cs)) K) : Ops X ops l L B K := Fin.nameS dd i m hd hi hl hm hp h
theorem Ops.weakX {l : Pl} (i : Nat) {v : Value} {el n : Nat} {cs : List CT} (ds : List CT) (hi : bget B i = some (.rowx v el n cs)) (hw : argW cs ds) (h : Ops X ops l L (bset B i (.rowx v el n ds)) K) : Ops X ops l L B K := fun a ρ w hI => by
  refine h a ρ w (hI.retype hi ?_ rfl)
  obtain ⟨h1, n', vs, h2, h3⟩ := (hI.ent i _ hi).1
  exact ⟨h1, n', vs, h2, hw.cells h3⟩
theorem Yo {L' : AL} {B' : BL} (hB : ∀ j, bget B' j = bget B j) (h : subL L L') : Entails X L B L' B' := fun _ ρ _ hI => ⟨ρ, (hI.subL h).bext hB⟩
theorem Zg (B : BL) (i : Nat) (e e' : Ent) : bset ((i, e) :: B) i e' = (i, e') :: B := by simp [bset]
end Go.Own
namespace Go.Proofs.YtdhmbgogmoaofaaGreat
open Go.Own Go.Limbs
def rng (a n : Nat) : List Int := (List.range n).map (fun i => ((a + i : Nat) : Int))
theorem XX (a n : Nat) : (rng a n).length = n := by simp [rng]
theorem Zx (a n : Nat) : rng a (n + 1) = rng a n ++ [((a + n : Nat) : Int)] := by simp [rng, List.range_succ]
theorem Xo (xs ys : List Int) : ints (xs ++ ys) = ints xs ++ ints ys := by simp [ints]
def lnOf (n : Nat) (cs : List Int) (b : Int) : List Int := (List.range n).map (fun j => cs.getD j 0) ++ [b]
def lnP (n : Nat) (cs : List Int) (q : Nat) : List Int := (List.range (n + 1)).map (fun j => if j < q then cs.getD j 0 else 0)
theorem lnP_len (n : Nat) (cs : List Int) (q : Nat) : (lnP n cs q).length = n + 1 := by simp [lnP]
theorem lnP_zero (n : Nat) (cs : List Int) : lnP n cs 0 = List.replicate (n + 1) 0 := by
  unfold lnP; rw [show (fun j => if j < 0 then cs.getD j 0 else 0) = fun _ => (0 : Int) by funext j; rw [if_neg (by omega)], List.map_const', List.length_range]
theorem lnP_set (n : Nat) (cs : List Int) (q : Nat) (h : q < n + 1) : (lnP n cs q).set q (cs.getD q 0) = lnP n cs (q + 1) := by
  unfold lnP; refine Y0 _ _ _ q _ h (fun j hj => ?_); by_cases e : j = q
  · subst e; rw [if_pos rfl, if_pos (by omega)]
  · rw [if_neg e]; by_cases h2 : j < q
    · rw [if_pos h2, if_pos (by omega)]
    · rw [if_neg h2, if_neg (by omega)]
theorem lnP_done (n : Nat) (cs : List Int) (b : Int) (h : cs.length ≤ n) : (lnP n cs cs.length).set n b = lnOf n cs b := by
  unfold lnP lnOf
  have e : (List.range (n + 1)).map (fun j => if j < cs.length then cs.getD j 0 else 0) = (List.range n).map (fun j => cs.getD j 0) ++ [cs.getD n 0] := by
    rw [List.range_succ, List.map_append]
    congr 1
    · apply List.map_congr_left
      intro j _; split
      · rfl
      · rw [getD_ge (by omega)]
    · rw [List.map_singleton, if_neg (by omega), getD_ge h]
  rw [e, List.set_append_right _ _ (by simp)]; simp
theorem whs_zero (m : Nat) : argW (zinit (.agg #[.bool false, .slice none 0 0]) m) (whs (List.replicate m 0)) := by
  induction m with
  | zero => exact trivial
  | succ m ih =>
    have e1 : zinit (.agg #[.bool false, .slice none 0 0]) (m + 1) = CT.ex (.bool false) :: CT.ex (.slice none 0 0) :: zinit (.agg #[.bool false, .slice none 0 0]) m := by unfold zinit; rw [List.replicate_succ]; rfl
    have e2 : whs (List.replicate (m + 1) 0) = boolC false :: intsC [] :: whs (List.replicate m 0) := by
      rw [List.replicate_succ]; show boolC (decide ((0 : Int) < 0)) :: natC 0 :: whs (List.replicate m 0) = _; rw [natC_zero]; rfl
    rw [e1, e2]; exact ⟨Xp, Yd, ih⟩
theorem lines_snoc : ∀ (k : Nat) (hl : List Value) (zs : List (List Int)) (h : Value) (y : List Int), hl.length = zs.length → ∀ j, bget (linesB k (hl ++ [h]) (zs ++ [y])) j = bget ((hl.length + k, .rowx h 94 2 (whs y)) :: linesB k hl zs) j
  | k, [], [], h, y, _, j => by simp [linesB]
  | k, a :: hl, z :: zs, h, y, he, j => by
    have ih := lines_snoc (k + 1) hl zs h y (by simpa using he) j
    have e : linesB k ((a :: hl) ++ [h]) ((z :: zs) ++ [y]) = (k, .rowx a 94 2 (whs z)) :: linesB (k + 1) (hl ++ [h]) (zs ++ [y]) := rfl
    rw [e]
    by_cases h1 : k = j
    · subst h1
      rw [Ql, Q3 _ _ (by simp), linesB, Ql]
    · rw [Q3 _ _ h1, ih]
      by_cases h2 : hl.length + (k + 1) = j
      · subst h2
        rw [Ql, show (a :: hl).length + k = hl.length + (k + 1) by simp; omega, Ql]
      · rw [Q3 _ _ h2, Q3 _ _ (by simp; omega), linesB, Q3 _ _ h1]
  | _, [], _ :: _, _, _, he, _ => by simp at he
  | _, _ :: _, [], _, _, he, _ => by simp at he
end Go.Proofs.YtdhmbgogmoaofaaGreat
namespace Go.Proofs.YtdhmbgogmoaofaaGreat
open Go.Own Go.Limbs
attribute [local irreducible] St Ops Go.Own.Fin Ok OkM
def IsH (m : Nat) (v : Value) : Prop := (m = 0 ∧ v = .slice none 0 0) ∨ (0 < m ∧ ∃ gb c, m ≤ c ∧ c ≤ maxLen ∧ v = .slice (some ⟨gb, 0, none⟩) m c)
theorem IsH.one {m : Nat} {v : Value} (h : IsH m v) : v.oneCell' = true := by
  rcases h with ⟨_, rfl⟩ | ⟨_, gb, c, _, _, rfl⟩ <;> rfl
def Okc (xs : List Int) : Prop := ∀ x ∈ xs, -1152921504606846976 ≤ x ∧ x ≤ 1152921504606846976
theorem Okc.get {xs : List Int} (h : Okc xs) (i : Nat) : -1152921504606846976 ≤ xs.getD i 0 ∧ xs.getD i 0 ≤ 1152921504606846976 := by
  rw [List.getD_eq_getElem?_getD]
  cases e : xs[i]? with
  | none => decide
  | some x => exact h x (List.mem_of_getElem? e)
structure OkRw (n : Nat) (r : Rw) : Prop where
  len : r.cs.length ≤ n
  cs : Okc r.cs
  b1 : -1152921504606846976 ≤ r.b
  b2 : r.b ≤ 1152921504606846976
structure Bgn (n : Nat) (rs : List Rw) (c : List Int) (T : Tv) : Prop where
  rows : T.rows = (rs.map fun r => lnOf n r.cs r.b) ++ [lnOf n (c.map fun x => -x) 0]
  bas : T.bas = rng n rs.length
  col : T.col = rng 0 n
  den : T.den = 1
  hl : T.hl.length = rs.length + 1
  lines : ∀ h ∈ T.hl, ∃ gb, h = .slice (some ⟨gb, 0, none⟩) (n + 1) (n + 1)
  hR : IsH (rs.length + 1) T.hR
  hB : IsH rs.length T.hB
  hC : IsH n T.hC
abbrev tb0 (hR hB hC : Value) : List CT := [.ex hR, .ex hB, .ex hC, boolC (decide ((1 : Int) < 0)), natC (1 : Int).natAbs]
theorem start_B {e0 e1 e2 e3 : Ent} : ∀ j, bget ((0, e0) :: (1, e1) :: (2, e2) :: (3, e3) :: linesB 10 [] ([].map fun r : Rw => lnOf 0 r.cs r.b)) j = bget [(3, e3), (2, e2), (1, e1), (0, e0)] j := fun j => by
  match j with
  | 0 => rfl
  | 1 => rfl
  | 2 => rfl
  | 3 => rfl
  | j + 4 => rfl
theorem step_B {e4 e0 e1 e2 e3 : Ent} {hl : List Value} {zs : List (List Int)} {h : Value} {y : List Int} (he : hl.length = zs.length) : ∀ j, bget ((0, e0) :: (1, e1) :: (2, e2) :: (3, e3) :: linesB 10 (hl ++ [h]) (zs ++ [y])) j = bget (bdel ((hl.length + 10, .rowx h 94 2 (whs y)) :: (4, e4) :: (0, e0) :: (1, e1) :: (2, e2) :: (3, e3) :: linesB 10 hl zs) 4) j := fun j => by
  by_cases h4 : j = 4
  · subst h4; rw [Z7]; exact Zl 10 _ _ 4 (by decide)
  · rw [Xg _ h4]
    match j, h4 with
    | 0, _ => exact (Q3 ((4, e4) :: (0, e0) :: (1, e1) :: (2, e2) :: (3, e3) :: linesB 10 hl zs) (.rowx h 94 2 (whs y)) (show hl.length + 10 ≠ 0 by omega)).symm
    | 1, _ => exact (Q3 ((4, e4) :: (0, e0) :: (1, e1) :: (2, e2) :: (3, e3) :: linesB 10 hl zs) (.rowx h 94 2 (whs y)) (show hl.length + 10 ≠ 1 by omega)).symm
    | 2, _ => exact (Q3 ((4, e4) :: (0, e0) :: (1, e1) :: (2, e2) :: (3, e3) :: linesB 10 hl zs) (.rowx h 94 2 (whs y)) (show hl.length + 10 ≠ 2 by omega)).symm
    | 3, _ => exact (Q3 ((4, e4) :: (0, e0) :: (1, e1) :: (2, e2) :: (3, e3) :: linesB 10 hl zs) (.rowx h 94 2 (whs y)) (show hl.length + 10 ≠ 3 by omega)).symm
    | j + 5, _ =>
      show bget (linesB 10 (hl ++ [h]) (zs ++ [y])) (j + 5) = _
      rw [lines_snoc 10 hl zs h y he]
      by_cases h5 : hl.length + 10 = j + 5
      · rw [h5, Ql, Ql]
      · rw [Q3 _ _ h5, Q3 _ _ h5]; rfl
theorem step_B2 {e0 e1 e2 e3 : Ent} {hl : List Value} {zs : List (List Int)} {h : Value} {y : List Int} (he : hl.length = zs.length) : ∀ j, bget ((0, e0) :: (1, e1) :: (2, e2) :: (3, e3) :: linesB 10 (hl ++ [h]) (zs ++ [y])) j = bget ((hl.length + 10, .rowx h 94 2 (whs y)) :: (0, e0) :: (1, e1) :: (2, e2) :: (3, e3) :: linesB 10 hl zs) j := fun j => by
  match j with
  | 0 => exact (Q3 ((0, e0) :: (1, e1) :: (2, e2) :: (3, e3) :: linesB 10 hl zs) (.rowx h 94 2 (whs y)) (show hl.length + 10 ≠ 0 by omega)).symm
  | 1 => exact (Q3 ((0, e0) :: (1, e1) :: (2, e2) :: (3, e3) :: linesB 10 hl zs) (.rowx h 94 2 (whs y)) (show hl.length + 10 ≠ 1 by omega)).symm
  | 2 => exact (Q3 ((0, e0) :: (1, e1) :: (2, e2) :: (3, e3) :: linesB 10 hl zs) (.rowx h 94 2 (whs y)) (show hl.length + 10 ≠ 2 by omega)).symm
  | 3 => exact (Q3 ((0, e0) :: (1, e1) :: (2, e2) :: (3, e3) :: linesB 10 hl zs) (.rowx h 94 2 (whs y)) (show hl.length + 10 ≠ 3 by omega)).symm
  | j + 4 =>
    show bget (linesB 10 (hl ++ [h]) (zs ++ [y])) (j + 4) = _
    rw [lines_snoc 10 hl zs h y he]
    by_cases h5 : hl.length + 10 = j + 4
    · rw [h5, Ql, Ql]
    · rw [Q3 _ _ h5, Q3 _ _ h5]; rfl
theorem lnP_all (n : Nat) (cs : List Int) (h : cs.length ≤ n) : lnP n cs cs.length = lnOf n cs 0 := by
  have := lnP_done n cs 0 h; rw [← this]; unfold lnP
  symm
  refine Y0 _ _ _ n _ (by omega) (fun j hj => ?_); by_cases e : j = n
  · subst e; rw [if_pos rfl, if_neg (by omega)]
  · rw [if_neg e]
theorem gobegin : InGo Tryz.prog 68 := InGo.of Tryz.func68 (by kernel_rfl) (by kernel_rfl)
set_option maxHeartbeats 32000000 in
theorem begin_ok (n : Nat) (rs : List Rw) (c : List Int) (hn : n ≤ 50) (hm : rs.length ≤ 90) (hr : ∀ r ∈ rs, OkRw n r) (hc : Okc c) (hcl : c.length ≤ n) : OkM Tryz.prog 68 [.ct (intC n), .ct (rowsC rs), .ct (intsC c)] [] [] (Bgn n rs c) (fun _ => .own 0) (fun T => tabB T) := by
  have hof1 := of_ok 1 (by decide) (by decide)
  refine OkM.enter Tryz.func68 J _ Tryz.ntmps68 J (fun i hi => by cases hi) ?_
  intro S w ρ0 hbor; refine Qy (Qx fun K hK => ?_); refine Qv J J J (Qj (hK _ _ (Qz (Qy ?_)))); clear hK K; refine Qx (fun K hK => ?_); refine QQ goof hof1 J J J J (Xk J bTab J (.agg J J J J .nil) J (XZ 0 J J J J J J J (Qv J J J (Qj (hK _ _ (Qz (Qy (Qy ?_)))))))); clear hK K; refine Qx (fun K hK => ?_); refine Qq J J J (Qq J J J (Qj (hK _ _ (Qz (Q0 ?_))))); clear hK K; refine St.nilX 1 95 1 J J (St.nilX 2 3 1 J J (St.nilX 3 3 1 J J ?_))
  refine Xq (α := Nat × Value) (fun x => x.1 ≤ n ∧ IsH x.1 x.2)
    (fun x => [(0, .ct (intC n)), (1, .ct (rowsC rs)), (2, .ct (intsC c)), (7, .own 0), (20, .ct (intC n)), (21, .ct (intC x.1))])
    (fun x => [(3, .rowx x.2 3 1 (ints (rng 0 x.1))), (2, .rowx (.slice none 0 0) 3 1 []), (1, .rowx (.slice none 0 0) 95 1 []), (0, .box 98 (tb0 (.slice none 0 0) (.slice none 0 0) x.2))])
    (fun x => n - x.1) (0, .slice none 0 0) ⟨Nat.zero_le _, .inl ⟨rfl, rfl⟩⟩ (by exact Qu J ⟨rfl, rfl, rfl, rfl, rfl, rfl, trivial⟩) ?_
  rintro ⟨j, hC⟩ ⟨hj, hH⟩
  dsimp only at hj hH ⊢; have hone := hH.one; refine Qy (Qx fun K hK => ?_); refine Qw ilss J J J J (Qj (hK _ _ (Qz (Qy ?_)))); clear hK K; refine QK J (fun h => ?_) (fun h => ?_)
  · refine QU (Qz (Qy (Q0 (Qy (Qx fun K hK => ?_))))); refine Qq J J J (Qv J J J (Qj (hK _ _ (Qz ?_)))); clear hK K; refine Qx (fun K hK => ?_); refine Qq J J J (Qq J J J (Q5 J J J J (QV J J J fT2 J (QJ J J J J J lInts J (Qq J J J (XQ J J sInts J J J (XJ 28 3 J J (Qi j (ints (rng 0 (j + 1))) J J J J sInts (by simp [XX]) J (by omega) (by omega) (by rw [Zx, Xo, Nat.zero_add]; rfl) J ?_)))))))); refine Xw 31 3 (j + 1) J J (by simp [XX]) (by omega) (by decide) (fun gb cc hc1 hc2 => ?_); refine Q5 J J J J (QV J J J fT2 J (Qn J J J J J Yu (Nat.le_of_ble_eq_true J) (Qj (hK _ _ (Qz ?_))))); clear hK K; refine Qx (fun K hK => ?_)
    refine Qw (iadd (by omega) (by omega)) J J J J ?_
    refine Qq J J J (Qj (hK _ _ (Q4 ?_))); clear hK K; refine Qb (j + 1, _) (by dsimp only; omega) ⟨by dsimp only; omega, .inr ⟨by dsimp only; omega, gb, cc, hc1, hc2, rfl⟩⟩ (by exact Qu J ⟨rfl, rfl, rfl, rfl, rfl, by simp only [Int.natCast_add]; rfl, trivial⟩)
  have hjn : j = n := by omega
  subst hjn; refine Qr (Qz (Qy (Qy (Qx fun K hK => ?_)))); refine Qq J J J (Q7 J J sRows.und (List.length_map ..) J (Qq J J J (Qj (hK _ _ (Qz (Q0 ?_)))))); clear hK K
  refine Xq (α := Value × Value × List Value) (fun x => x.2.2.length ≤ rs.length ∧ IsH x.2.2.length x.1 ∧ IsH x.2.2.length x.2.1 ∧ ∀ h ∈ x.2.2, ∃ gb, h = .slice (some ⟨gb, 0, none⟩) (j + 1) (j + 1))
    (fun x => [(0, .ct (intC j)), (1, .ct (rowsC rs)), (2, .ct (intsC c)), (7, .own 0), (35, .ct (rowsC rs)), (36, .ct (intC rs.length)), (37, .ct (intC x.2.2.length))])
    (fun x => (0, .box 98 (tb0 x.1 x.2.1 hC)) :: (1, .rowx x.1 95 1 (x.2.2.map CT.ex)) :: (2, .rowx x.2.1 3 1 (ints (rng j x.2.2.length))) :: (3, .rowx hC 3 1 (ints (rng 0 j))) :: linesB 10 x.2.2 ((rs.take x.2.2.length).map fun r => lnOf j r.cs r.b))
    (fun x => rs.length - x.2.2.length) (.slice none 0 0, .slice none 0 0, []) ⟨Nat.zero_le _, .inl ⟨rfl, rfl⟩, .inl ⟨rfl, rfl⟩, fun h hh => by cases hh⟩ (by exact Yo start_B ⟨rfl, rfl, rfl, rfl, rfl, rfl, rfl, trivial⟩) ?_
  rintro ⟨hR, hB, hl⟩ ⟨hi, hHR, hHB, hlines⟩
  dsimp only at hi hHR hHB hlines ⊢; have oneR := hHR.one; have oneB := hHB.one
  have hrl : ((rs.take hl.length).map fun r => lnOf j r.cs r.b).length = hl.length := by simp; omega
  refine Qy (Qx fun K hK => ?_); refine Qw ilss J J J J (Qj (hK _ _ (Qz (Qy ?_)))); clear hK K; refine QK J (fun h => ?_) (fun h => ?_)
  · have hi2 : hl.length < rs.length := by omega
    have hrw : OkRw j (rs.getD hl.length rw0) := hr _ (by rw [List.getD_eq_getElem?_getD, List.getElem?_eq_getElem hi2]; exact List.getElem_mem hi2)
    have etake : (rs.take (hl.length + 1)).map (fun r => lnOf j r.cs r.b) = (rs.take hl.length).map (fun r => lnOf j r.cs r.b) ++ [lnOf j (rs.getD hl.length rw0).cs (rs.getD hl.length rw0).b] := by
      rw [List.take_succ_eq_append_getElem hi2, List.map_append, List.map_singleton, List.getD_eq_getElem?_getD, List.getElem?_eq_getElem hi2]; rfl
    have kl : ((hl.length : Int)).toNat = hl.length := Int.toNat_natCast _; refine QU (Qz (Qy (Q0 (Qy (Qx fun K hK => ?_))))); refine Qq J J J (Qh J J J sRows (by omega) (Zf (by omega) (by omega)) J ?_); rw [kl]; generalize rs.getD hl.length rw0 = rw at *; generalize (rs.take hl.length).map (fun r => lnOf j r.cs r.b) = zs at *; have hlen := hrw.len; have hcs := hrw.cs; have hb1 := hrw.b1; have hb2 := hrw.b2; refine Xd (n := 2) J J J lRow J J (Qf 4 J J zvRowW J (by exact Zl 10 _ _ 4 (by decide)) J ?_); refine Qv J J J (Qa 2 J J J J J szRow J J (Qj (hK _ _ (Qz (Qy ?_))))); clear hK K; refine Qx (fun K hK => ?_); refine Qq J J J (Qw (iadd (by omega) (by omega)) J J J J ?_); refine Ops.makeX (hl.length + 10) (j + 1) J J J (by omega) sWhs (by omega) (by omega) J (by exact lines_ge (.inl (Nat.le_refl _))) J (fun gb => ?_)
    refine Ops.weakX (hl.length + 10) (whs (List.replicate (j + 1) 0)) (Ql ..) (whs_zero (j + 1)) ?_
    rw [Zg]; refine Qv J J J (Qj (hK _ _ (Qz (Qy (Qy ?_))))); clear hK K; refine Qx (fun K hK => ?_); refine QV J J J fR0 J (QJ J J J J J lInts J (Q7 J J sInts.und (List.length_map ..) J (Qq J J J (Qj (hK _ _ (Qz (Q0 ?_))))))); clear hK K
    refine Xq (α := Nat) (fun q => q ≤ rw.cs.length)
      (fun q => [(0, .ct (intC j)), (1, .ct (rowsC rs)), (2, .ct (intsC c)), (7, .own 0), (9, .ct (intC hl.length)), (10, .own 4), (11, .ct (.ex (.slice (some ⟨gb, 0, none⟩) (j + 1) (j + 1)))), (35, .ct (rowsC rs)), (36, .ct (intC rs.length)), (37, .ct (intC hl.length)), (46, .ct (intsC rw.cs)), (47, .ct (intC rw.cs.length)), (48, .ct (intC q))])
      (fun q => (hl.length + 10, .rowx (.slice (some ⟨gb, 0, none⟩) (j + 1) (j + 1)) 94 2 (whs (lnP j rw.cs q))) :: (4, .box 57 (rwCs rw)) :: (0, .box 98 (tb0 hR hB hC)) :: (1, .rowx hR 95 1 (hl.map CT.ex)) :: (2, .rowx hB 3 1 (ints (rng j hl.length))) :: (3, .rowx hC 3 1 (ints (rng 0 j))) :: linesB 10 hl zs)
      (fun q => rw.cs.length - q) 0 (Nat.zero_le _) (by exact Qu (by rw [lnP_zero]; rfl) ⟨rfl, rfl, rfl, rfl, rfl, rfl, rfl, rfl, rfl, rfl, rfl, rfl, rfl, trivial⟩) ?_
    intro q hq
    (try dsimp only at hq ⊢)
    have hpl := lnP_len j rw.cs q; refine Qy (Qx fun K hK => ?_); refine Qw ilss J J J J (Qj (hK _ _ (Qz (Qy ?_)))); clear hK K; refine QK J (fun h2 => ?_) (fun h2 => ?_)
    · have kq : (q : Int).toNat = q := Int.toNat_natCast _
      have kq2 : (q : Int).toNat * 2 = q * 2 := by omega
      have bq := hcs.get q; have eset := lnP_set j rw.cs q (by omega); refine QU (Qz (Qy (Q0 (Qy (Qx fun K hK => ?_))))); refine Qq J J J (Qh J J J sInts (by omega) (X3 (by omega) (by omega)) J ?_); refine Xz J J J lInt J (Qv J J J (Qv J J J (Qj (hK _ _ (Qz ?_))))); clear hK K; refine Qx (fun K hK => ?_); refine Qq J J J (Qq J J J (Qq J J J ?_)); rw [kq]
      refine QQ goof (of_ok _ (by omega) (by omega)) J J J J ?_
      refine Qo (hl.length + 10) (j + 1) J J (Ql ..) (by rw [X9, hpl]) J sWhs (by omega) (by omega) J ?_
      rw [kq2]
      refine stWhX J J (Ql ..) J (by omega) szWh ?_
      rw [Zg, eset]; refine Qj (hK _ _ (Qz ?_)); clear hK K; refine Qx (fun K hK => ?_)
      refine Qw (iadd (by omega) (by omega)) J J J J ?_
      refine Qq J J J (Qj (hK _ _ (Q4 ?_))); clear hK K; refine Qb (q + 1) (by omega) (by omega) (by exact Qu J ⟨rfl, rfl, rfl, rfl, rfl, rfl, rfl, rfl, rfl, rfl, rfl, rfl, by simp only [Int.natCast_add]; rfl, trivial⟩)
    have hq' : q = rw.cs.length := by omega
    subst hq'
    have kj2 : (j : Int).toNat * 2 = j * 2 := by omega
    have edone := lnP_done j rw.cs rw.b hlen; generalize lnP j rw.cs rw.cs.length = cur at *; refine Qr (Qz (Qy (Qx fun K hK => ?_))); refine Qq J J J (Qq J J J (QV J J J fR1 J (QJ J J J J J lInt J (QQ goof (of_ok _ (by omega) (by omega)) J J J J ?_))))
    refine Qo (hl.length + 10) (j + 1) J J (Ql ..) (by rw [X9, hpl]) J sWhs (by omega) (by omega) J ?_
    rw [kj2]
    refine stWhX J J (Ql ..) J (by omega) szWh ?_
    rw [Zg, edone]; generalize lnOf j rw.cs rw.b = line at *; refine Qj (hK _ _ (Qz ?_)); clear hK K
    refine St.drawQ mixed [8, 17, 20, 23] (.p 0 (.p 1 (.p 2 (.p 3 (.p 4 (.p 6 (.p 9 (.p 10 (.p 11 (.p 13 (.p 14 (.p 15 (.f 5 (.m 7 (.a 8 (.m 12 (.m 16 (.a 17 (.p 18 (.p 19 (.a 20 (.p 21 (.p 22 (.a 23 .done .non))) .non))) .non) .non) (.m 16 (.m 12 (.a 17 (.p 18 (.p 19 (.a 20 (.p 21 (.p 22 (.a 23 .done .non))) .non))) .non) .non) .non)) (.m 12 (.a 8 (.m 16 (.a 17 (.p 18 (.p 19 (.a 20 (.p 21 (.p 22 (.a 23 .done .non))) .non))) .non) .non) (.m 16 (.a 8 (.a 17 (.p 18 (.p 19 (.a 20 (.p 21 (.p 22 (.a 23 .done .non))) .non))) .non) .non) .non)) (.m 16 (.a 8 (.m 12 (.a 17 (.p 18 (.p 19 (.a 20 (.p 21 (.p 22 (.a 23 .done .non))) .non))) .non) .non) (.m 12 (.a 8 (.a 17 (.p 18 (.p 19 (.a 20 (.p 21 (.p 22 (.a 23 .done .non))) .non))) .non) .non) .non)) .non))) (.m 12 (.m 7 (.a 8 (.m 16 (.a 17 (.p 18 (.p 19 (.a 20 (.p 21 (.p 22 (.a 23 .done .non))) .non))) .non) .non) (.m 16 (.a 8 (.a 17 (.p 18 (.p 19 (.a 20 (.p 21 (.p 22 (.a 23 .done .non))) .non))) .non) .non) .non)) (.m 16 (.m 7 (.a 8 (.a 17 (.p 18 (.p 19 (.a 20 (.p 21 (.p 22 (.a 23 .done .non))) .non))) .non) .non) .non) .non)) (.m 16 (.m 7 (.a 8 (.m 12 (.a 17 (.p 18 (.p 19 (.a 20 (.p 21 (.p 22 (.a 23 .done .non))) .non))) .non) .non) (.m 12 (.a 8 (.a 17 (.p 18 (.p 19 (.a 20 (.p 21 (.p 22 (.a 23 .done .non))) .non))) .non) .non) .non)) (.m 12 (.m 7 (.a 8 (.a 17 (.p 18 (.p 19 (.a 20 (.p 21 (.p 22 (.a 23 .done .non))) .non))) .non) .non) .non) .non)) .non)))))))))))))))) (by kernel_rfl) (fun K hK => ?_)
    refine (fun (cont : ∀ x : Nat × Nat × Nat × Nat, (hl.length + 1 ≤ x.2.1 ∧ x.2.1 ≤ maxLen ∧ hl.length + 1 ≤ x.2.2.2 ∧ x.2.2.2 ≤ maxLen) → Go.Own.Fin _ [(0, .ct (intC j)), (1, .ct (rowsC rs)), (2, .ct (intsC c)), (7, .own 0), (35, .ct (rowsC rs)), (36, .ct (intC rs.length)), (37, .ct (intC hl.length))]
      ((hl.length + 10, .rowx (.slice (some ⟨gb, 0, none⟩) (j + 1) (j + 1)) 94 2 (whs line)) :: (4, .box 57 (rwCs rw)) :: (0, .box 98 (tb0 (.slice (some ⟨x.1, 0, none⟩) (hl.length + 1) x.2.1) (.slice (some ⟨x.2.2.1, 0, none⟩) (hl.length + 1) x.2.2.2) hC)) :: (1, .rowx (.slice (some ⟨x.1, 0, none⟩) (hl.length + 1) x.2.1) 95 1 ((hl ++ [Value.slice (some ⟨gb, 0, none⟩) (j + 1) (j + 1)]).map CT.ex)) :: (2, .rowx (.slice (some ⟨x.2.2.1, 0, none⟩) (hl.length + 1) x.2.2.2) 3 1 (ints (rng j (hl.length + 1)))) :: (3, .rowx hC 3 1 (ints (rng 0 j))) :: linesB 10 hl zs) K) => ?_) (fun x hx => hK _ _ ?_)
    rotate_left
    · obtain ⟨g1, c1, g2, c2⟩ := x; obtain ⟨e1, e2, e3, e4⟩ := hx; clear hK K; refine Qz (Qx fun K hK => ?_)
      refine Qw (iadd (by omega) (by omega)) J J J J ?_
      refine Qq J J J (Qj (hK _ _ (Q4 ?_))); clear hK K; dsimp only at e1 e2 e3 e4
      have hll : (hl ++ [Value.slice (some ⟨gb, 0, none⟩) (j + 1) (j + 1)]).length = hl.length + 1 := by simp
      refine Qb (Value.slice (some ⟨g1, 0, none⟩) (hl.length + 1) c1, Value.slice (some ⟨g2, 0, none⟩) (hl.length + 1) c2, hl ++ [Value.slice (some ⟨gb, 0, none⟩) (j + 1) (j + 1)]) (by dsimp only; omega) ⟨by dsimp only; omega, by dsimp only; rw [hll]; exact .inr ⟨by omega, g1, c1, e1, e2, rfl⟩, by dsimp only; rw [hll]; exact .inr ⟨by omega, g2, c2, e3, e4, rfl⟩, fun h hh => ?_⟩ (by exact Yx 4 (Yo (by
        dsimp only
        rw [hll, etake]; exact step_B (by omega)) ⟨rfl, rfl, rfl, rfl, rfl, rfl, by rw [hll]; simp only [Int.natCast_add]; rfl, trivial⟩))
      rcases List.mem_append.1 hh with hh | hh
      · exact hlines h hh
      · exact ⟨gb, by simpa using hh⟩
    clear hK; refine Qm (Qq J J J (Qj ?_)); refine Qm (Qq J J J (Qj ?_)); refine Qm (Qq J J J (Qj ?_)); refine Qm (Q5 J J J J (Qj ?_)); refine Qm (QV J J J fT0 J (Qj ?_)); refine Qm (Qq J J J (Qj ?_)); refine Qm (Qq J J J (Qj ?_)); refine Qm (Q5 J J J J (Qj ?_)); refine Qm (QV J J J fT1 J (Qj ?_)); refine Qm (Qq J J J (Qj ?_)); refine Qm (Qq J J J (Qj ?_)); refine Qm (Qw (iadd (by omega) (by omega)) J J J J (Qj ?_)); refine Fin.qf (QJ J J J J J lMat J (Qj ?_))
    refine X5 ?_ ?_
    · refine XQ J J sMat J J J (Qj (Xx ?_ ?_))
      · refine XJ 70 1 J J (Qi hl.length ((hl ++ [Value.slice (some ⟨gb, 0, none⟩) (j + 1) (j + 1)]).map CT.ex) J J J J sMat (by simp) J (by omega) (by omega) (by simp) J ?_); refine Xw 73 1 (hl.length + 1) J J (by simp) (by omega) (by decide) (fun g1 c1 e1 e2 => ?_); refine Qj (X5 ?_ ?_)
        · refine QJ J J J J J lInts J (Qj (X5 ?_ ?_))
          · refine XQ J J sInts J J J (Qj (Xx ?_ Q8)); refine XJ 77 2 J J (Qi hl.length (ints (rng j (hl.length + 1))) J J J J sInts (by simp [XX]) J (by omega) (by omega) (by rw [Zx, Xo, Int.natCast_add]; rfl) J ?_); refine Xw 82 2 (hl.length + 1) J J (by simp [XX]) (by omega) (by decide) (fun g2 c2 e3 e4 => ?_); refine Qj (Qm (Q5 J J J J (Qj ?_))); refine Qm (QV J J J fT0 J (Qj ?_)); refine Xx (Qn J J J J J zMat (Nat.le_of_ble_eq_true J) (Qj ?_)) Q8; refine Qm (Q5 J J J J (Qj ?_)); refine Qm (QV J J J fT1 J (Qj ?_)); refine Xx (Qn J J J J J Yu (Nat.le_of_ble_eq_true J) (Qj ?_)) Q8; exact X4 (XV cont (g1, c1, g2, c2) ⟨e1, e2, e3, e4⟩ (by exact Qu J ⟨rfl, rfl, rfl, rfl, rfl, rfl, rfl, trivial⟩))
          exact Q8
        refine X5 ?_ ?_
        · refine XQ J J sInts J J J (Qj (X5 ?_ ?_))
          · refine QJ J J J J J lInts J (Qj (Xx ?_ Q8)); refine XJ 77 2 J J (Qi hl.length (ints (rng j (hl.length + 1))) J J J J sInts (by simp [XX]) J (by omega) (by omega) (by rw [Zx, Xo, Int.natCast_add]; rfl) J ?_); refine Xw 82 2 (hl.length + 1) J J (by simp [XX]) (by omega) (by decide) (fun g2 c2 e3 e4 => ?_); refine Qj (Qm (Q5 J J J J (Qj ?_))); refine Qm (QV J J J fT0 J (Qj ?_)); refine Xx (Qn J J J J J zMat (Nat.le_of_ble_eq_true J) (Qj ?_)) Q8; refine Qm (Q5 J J J J (Qj ?_)); refine Qm (QV J J J fT1 J (Qj ?_)); refine Xx (Qn J J J J J Yu (Nat.le_of_ble_eq_true J) (Qj ?_)) Q8; exact X4 (XV cont (g1, c1, g2, c2) ⟨e1, e2, e3, e4⟩ (by exact Qu J ⟨rfl, rfl, rfl, rfl, rfl, rfl, rfl, trivial⟩))
          exact Q8
        exact Q8
      refine X5 ?_ ?_
      · refine QJ J J J J J lInts J (Qj (Xx ?_ ?_))
        · refine XJ 70 1 J J (Qi hl.length ((hl ++ [Value.slice (some ⟨gb, 0, none⟩) (j + 1) (j + 1)]).map CT.ex) J J J J sMat (by simp) J (by omega) (by omega) (by simp) J ?_); refine Xw 73 1 (hl.length + 1) J J (by simp) (by omega) (by decide) (fun g1 c1 e1 e2 => ?_); refine Qj (X5 ?_ ?_)
          · refine XQ J J sInts J J J (Qj (Xx ?_ Q8)); refine XJ 77 2 J J (Qi hl.length (ints (rng j (hl.length + 1))) J J J J sInts (by simp [XX]) J (by omega) (by omega) (by rw [Zx, Xo, Int.natCast_add]; rfl) J ?_); refine Xw 82 2 (hl.length + 1) J J (by simp [XX]) (by omega) (by decide) (fun g2 c2 e3 e4 => ?_); refine Qj (Qm (Q5 J J J J (Qj ?_))); refine Qm (QV J J J fT0 J (Qj ?_)); refine Xx (Qn J J J J J zMat (Nat.le_of_ble_eq_true J) (Qj ?_)) Q8; refine Qm (Q5 J J J J (Qj ?_)); refine Qm (QV J J J fT1 J (Qj ?_)); refine Xx (Qn J J J J J Yu (Nat.le_of_ble_eq_true J) (Qj ?_)) Q8; exact X4 (XV cont (g1, c1, g2, c2) ⟨e1, e2, e3, e4⟩ (by exact Qu J ⟨rfl, rfl, rfl, rfl, rfl, rfl, rfl, trivial⟩))
          exact Q8
        refine X5 ?_ ?_
        · refine XQ J J sInts J J J (Qj (Xx ?_ ?_))
          · refine XJ 70 1 J J (Qi hl.length ((hl ++ [Value.slice (some ⟨gb, 0, none⟩) (j + 1) (j + 1)]).map CT.ex) J J J J sMat (by simp) J (by omega) (by omega) (by simp) J ?_); refine Xw 73 1 (hl.length + 1) J J (by simp) (by omega) (by decide) (fun g1 c1 e1 e2 => ?_); refine Qj (Xx ?_ Q8); refine XJ 77 2 J J (Qi hl.length (ints (rng j (hl.length + 1))) J J J J sInts (by simp [XX]) J (by omega) (by omega) (by rw [Zx, Xo, Int.natCast_add]; rfl) J ?_); refine Xw 82 2 (hl.length + 1) J J (by simp [XX]) (by omega) (by decide) (fun g2 c2 e3 e4 => ?_); refine Qj (Qm (Q5 J J J J (Qj ?_))); refine Qm (QV J J J fT0 J (Qj ?_)); refine Xx (Qn J J J J J zMat (Nat.le_of_ble_eq_true J) (Qj ?_)) Q8; refine Qm (Q5 J J J J (Qj ?_)); refine Qm (QV J J J fT1 J (Qj ?_)); refine Xx (Qn J J J J J Yu (Nat.le_of_ble_eq_true J) (Qj ?_)) Q8; exact X4 (XV cont (g1, c1, g2, c2) ⟨e1, e2, e3, e4⟩ (by exact Qu J ⟨rfl, rfl, rfl, rfl, rfl, rfl, rfl, trivial⟩))
          exact Q8
        exact Q8
      refine X5 ?_ ?_
      · refine XQ J J sInts J J J (Qj (Xx ?_ ?_))
        · refine XJ 70 1 J J (Qi hl.length ((hl ++ [Value.slice (some ⟨gb, 0, none⟩) (j + 1) (j + 1)]).map CT.ex) J J J J sMat (by simp) J (by omega) (by omega) (by simp) J ?_); refine Xw 73 1 (hl.length + 1) J J (by simp) (by omega) (by decide) (fun g1 c1 e1 e2 => ?_); refine Qj (X5 ?_ ?_)
          · refine QJ J J J J J lInts J (Qj (Xx ?_ Q8)); refine XJ 77 2 J J (Qi hl.length (ints (rng j (hl.length + 1))) J J J J sInts (by simp [XX]) J (by omega) (by omega) (by rw [Zx, Xo, Int.natCast_add]; rfl) J ?_); refine Xw 82 2 (hl.length + 1) J J (by simp [XX]) (by omega) (by decide) (fun g2 c2 e3 e4 => ?_); refine Qj (Qm (Q5 J J J J (Qj ?_))); refine Qm (QV J J J fT0 J (Qj ?_)); refine Xx (Qn J J J J J zMat (Nat.le_of_ble_eq_true J) (Qj ?_)) Q8; refine Qm (Q5 J J J J (Qj ?_)); refine Qm (QV J J J fT1 J (Qj ?_)); refine Xx (Qn J J J J J Yu (Nat.le_of_ble_eq_true J) (Qj ?_)) Q8; exact X4 (XV cont (g1, c1, g2, c2) ⟨e1, e2, e3, e4⟩ (by exact Qu J ⟨rfl, rfl, rfl, rfl, rfl, rfl, rfl, trivial⟩))
          exact Q8
        refine X5 ?_ ?_
        · refine QJ J J J J J lInts J (Qj (Xx ?_ ?_))
          · refine XJ 70 1 J J (Qi hl.length ((hl ++ [Value.slice (some ⟨gb, 0, none⟩) (j + 1) (j + 1)]).map CT.ex) J J J J sMat (by simp) J (by omega) (by omega) (by simp) J ?_); refine Xw 73 1 (hl.length + 1) J J (by simp) (by omega) (by decide) (fun g1 c1 e1 e2 => ?_); refine Qj (Xx ?_ Q8); refine XJ 77 2 J J (Qi hl.length (ints (rng j (hl.length + 1))) J J J J sInts (by simp [XX]) J (by omega) (by omega) (by rw [Zx, Xo, Int.natCast_add]; rfl) J ?_); refine Xw 82 2 (hl.length + 1) J J (by simp [XX]) (by omega) (by decide) (fun g2 c2 e3 e4 => ?_); refine Qj (Qm (Q5 J J J J (Qj ?_))); refine Qm (QV J J J fT0 J (Qj ?_)); refine Xx (Qn J J J J J zMat (Nat.le_of_ble_eq_true J) (Qj ?_)) Q8; refine Qm (Q5 J J J J (Qj ?_)); refine Qm (QV J J J fT1 J (Qj ?_)); refine Xx (Qn J J J J J Yu (Nat.le_of_ble_eq_true J) (Qj ?_)) Q8; exact X4 (XV cont (g1, c1, g2, c2) ⟨e1, e2, e3, e4⟩ (by exact Qu J ⟨rfl, rfl, rfl, rfl, rfl, rfl, rfl, trivial⟩))
          exact Q8
        exact Q8
      exact Q8
    refine X5 ?_ ?_
    · refine QJ J J J J J lInts J (Qj (X5 ?_ ?_))
      · refine XQ J J sMat J J J (Qj (Xx ?_ ?_))
        · refine XJ 70 1 J J (Qi hl.length ((hl ++ [Value.slice (some ⟨gb, 0, none⟩) (j + 1) (j + 1)]).map CT.ex) J J J J sMat (by simp) J (by omega) (by omega) (by simp) J ?_); refine Xw 73 1 (hl.length + 1) J J (by simp) (by omega) (by decide) (fun g1 c1 e1 e2 => ?_); refine Qj (X5 ?_ ?_)
          · refine XQ J J sInts J J J (Qj (Xx ?_ Q8)); refine XJ 77 2 J J (Qi hl.length (ints (rng j (hl.length + 1))) J J J J sInts (by simp [XX]) J (by omega) (by omega) (by rw [Zx, Xo, Int.natCast_add]; rfl) J ?_); refine Xw 82 2 (hl.length + 1) J J (by simp [XX]) (by omega) (by decide) (fun g2 c2 e3 e4 => ?_); refine Qj (Qm (Q5 J J J J (Qj ?_))); refine Qm (QV J J J fT0 J (Qj ?_)); refine Xx (Qn J J J J J zMat (Nat.le_of_ble_eq_true J) (Qj ?_)) Q8; refine Qm (Q5 J J J J (Qj ?_)); refine Qm (QV J J J fT1 J (Qj ?_)); refine Xx (Qn J J J J J Yu (Nat.le_of_ble_eq_true J) (Qj ?_)) Q8; exact X4 (XV cont (g1, c1, g2, c2) ⟨e1, e2, e3, e4⟩ (by exact Qu J ⟨rfl, rfl, rfl, rfl, rfl, rfl, rfl, trivial⟩))
          exact Q8
        refine X5 ?_ ?_
        · refine XQ J J sInts J J J (Qj (Xx ?_ ?_))
          · refine XJ 70 1 J J (Qi hl.length ((hl ++ [Value.slice (some ⟨gb, 0, none⟩) (j + 1) (j + 1)]).map CT.ex) J J J J sMat (by simp) J (by omega) (by omega) (by simp) J ?_); refine Xw 73 1 (hl.length + 1) J J (by simp) (by omega) (by decide) (fun g1 c1 e1 e2 => ?_); refine Qj (Xx ?_ Q8); refine XJ 77 2 J J (Qi hl.length (ints (rng j (hl.length + 1))) J J J J sInts (by simp [XX]) J (by omega) (by omega) (by rw [Zx, Xo, Int.natCast_add]; rfl) J ?_); refine Xw 82 2 (hl.length + 1) J J (by simp [XX]) (by omega) (by decide) (fun g2 c2 e3 e4 => ?_); refine Qj (Qm (Q5 J J J J (Qj ?_))); refine Qm (QV J J J fT0 J (Qj ?_)); refine Xx (Qn J J J J J zMat (Nat.le_of_ble_eq_true J) (Qj ?_)) Q8; refine Qm (Q5 J J J J (Qj ?_)); refine Qm (QV J J J fT1 J (Qj ?_)); refine Xx (Qn J J J J J Yu (Nat.le_of_ble_eq_true J) (Qj ?_)) Q8; exact X4 (XV cont (g1, c1, g2, c2) ⟨e1, e2, e3, e4⟩ (by exact Qu J ⟨rfl, rfl, rfl, rfl, rfl, rfl, rfl, trivial⟩))
          exact Q8
        exact Q8
      refine X5 ?_ ?_
      · refine XQ J J sInts J J J (Qj (X5 ?_ ?_))
        · refine XQ J J sMat J J J (Qj (Xx ?_ ?_))
          · refine XJ 70 1 J J (Qi hl.length ((hl ++ [Value.slice (some ⟨gb, 0, none⟩) (j + 1) (j + 1)]).map CT.ex) J J J J sMat (by simp) J (by omega) (by omega) (by simp) J ?_); refine Xw 73 1 (hl.length + 1) J J (by simp) (by omega) (by decide) (fun g1 c1 e1 e2 => ?_); refine Qj (Xx ?_ Q8); refine XJ 77 2 J J (Qi hl.length (ints (rng j (hl.length + 1))) J J J J sInts (by simp [XX]) J (by omega) (by omega) (by rw [Zx, Xo, Int.natCast_add]; rfl) J ?_); refine Xw 82 2 (hl.length + 1) J J (by simp [XX]) (by omega) (by decide) (fun g2 c2 e3 e4 => ?_); refine Qj (Qm (Q5 J J J J (Qj ?_))); refine Qm (QV J J J fT0 J (Qj ?_)); refine Xx (Qn J J J J J zMat (Nat.le_of_ble_eq_true J) (Qj ?_)) Q8; refine Qm (Q5 J J J J (Qj ?_)); refine Qm (QV J J J fT1 J (Qj ?_)); refine Xx (Qn J J J J J Yu (Nat.le_of_ble_eq_true J) (Qj ?_)) Q8; exact X4 (XV cont (g1, c1, g2, c2) ⟨e1, e2, e3, e4⟩ (by exact Qu J ⟨rfl, rfl, rfl, rfl, rfl, rfl, rfl, trivial⟩))
          exact Q8
        exact Q8
      exact Q8
    refine X5 ?_ ?_
    · refine XQ J J sInts J J J (Qj (X5 ?_ ?_))
      · refine XQ J J sMat J J J (Qj (Xx ?_ ?_))
        · refine XJ 70 1 J J (Qi hl.length ((hl ++ [Value.slice (some ⟨gb, 0, none⟩) (j + 1) (j + 1)]).map CT.ex) J J J J sMat (by simp) J (by omega) (by omega) (by simp) J ?_); refine Xw 73 1 (hl.length + 1) J J (by simp) (by omega) (by decide) (fun g1 c1 e1 e2 => ?_); refine Qj (X5 ?_ ?_)
          · refine QJ J J J J J lInts J (Qj (Xx ?_ Q8)); refine XJ 77 2 J J (Qi hl.length (ints (rng j (hl.length + 1))) J J J J sInts (by simp [XX]) J (by omega) (by omega) (by rw [Zx, Xo, Int.natCast_add]; rfl) J ?_); refine Xw 82 2 (hl.length + 1) J J (by simp [XX]) (by omega) (by decide) (fun g2 c2 e3 e4 => ?_); refine Qj (Qm (Q5 J J J J (Qj ?_))); refine Qm (QV J J J fT0 J (Qj ?_)); refine Xx (Qn J J J J J zMat (Nat.le_of_ble_eq_true J) (Qj ?_)) Q8; refine Qm (Q5 J J J J (Qj ?_)); refine Qm (QV J J J fT1 J (Qj ?_)); refine Xx (Qn J J J J J Yu (Nat.le_of_ble_eq_true J) (Qj ?_)) Q8; exact X4 (XV cont (g1, c1, g2, c2) ⟨e1, e2, e3, e4⟩ (by exact Qu J ⟨rfl, rfl, rfl, rfl, rfl, rfl, rfl, trivial⟩))
          exact Q8
        refine X5 ?_ ?_
        · refine QJ J J J J J lInts J (Qj (Xx ?_ ?_))
          · refine XJ 70 1 J J (Qi hl.length ((hl ++ [Value.slice (some ⟨gb, 0, none⟩) (j + 1) (j + 1)]).map CT.ex) J J J J sMat (by simp) J (by omega) (by omega) (by simp) J ?_); refine Xw 73 1 (hl.length + 1) J J (by simp) (by omega) (by decide) (fun g1 c1 e1 e2 => ?_); refine Qj (Xx ?_ Q8); refine XJ 77 2 J J (Qi hl.length (ints (rng j (hl.length + 1))) J J J J sInts (by simp [XX]) J (by omega) (by omega) (by rw [Zx, Xo, Int.natCast_add]; rfl) J ?_); refine Xw 82 2 (hl.length + 1) J J (by simp [XX]) (by omega) (by decide) (fun g2 c2 e3 e4 => ?_); refine Qj (Qm (Q5 J J J J (Qj ?_))); refine Qm (QV J J J fT0 J (Qj ?_)); refine Xx (Qn J J J J J zMat (Nat.le_of_ble_eq_true J) (Qj ?_)) Q8; refine Qm (Q5 J J J J (Qj ?_)); refine Qm (QV J J J fT1 J (Qj ?_)); refine Xx (Qn J J J J J Yu (Nat.le_of_ble_eq_true J) (Qj ?_)) Q8; exact X4 (XV cont (g1, c1, g2, c2) ⟨e1, e2, e3, e4⟩ (by exact Qu J ⟨rfl, rfl, rfl, rfl, rfl, rfl, rfl, trivial⟩))
          exact Q8
        exact Q8
      refine X5 ?_ ?_
      · refine QJ J J J J J lInts J (Qj (X5 ?_ ?_))
        · refine XQ J J sMat J J J (Qj (Xx ?_ ?_))
          · refine XJ 70 1 J J (Qi hl.length ((hl ++ [Value.slice (some ⟨gb, 0, none⟩) (j + 1) (j + 1)]).map CT.ex) J J J J sMat (by simp) J (by omega) (by omega) (by simp) J ?_); refine Xw 73 1 (hl.length + 1) J J (by simp) (by omega) (by decide) (fun g1 c1 e1 e2 => ?_); refine Qj (Xx ?_ Q8); refine XJ 77 2 J J (Qi hl.length (ints (rng j (hl.length + 1))) J J J J sInts (by simp [XX]) J (by omega) (by omega) (by rw [Zx, Xo, Int.natCast_add]; rfl) J ?_); refine Xw 82 2 (hl.length + 1) J J (by simp [XX]) (by omega) (by decide) (fun g2 c2 e3 e4 => ?_); refine Qj (Qm (Q5 J J J J (Qj ?_))); refine Qm (QV J J J fT0 J (Qj ?_)); refine Xx (Qn J J J J J zMat (Nat.le_of_ble_eq_true J) (Qj ?_)) Q8; refine Qm (Q5 J J J J (Qj ?_)); refine Qm (QV J J J fT1 J (Qj ?_)); refine Xx (Qn J J J J J Yu (Nat.le_of_ble_eq_true J) (Qj ?_)) Q8; exact X4 (XV cont (g1, c1, g2, c2) ⟨e1, e2, e3, e4⟩ (by exact Qu J ⟨rfl, rfl, rfl, rfl, rfl, rfl, rfl, trivial⟩))
          exact Q8
        exact Q8
      exact Q8
    exact Q8
  have hi' : hl.length = rs.length := by omega
  rw [show rs.take hl.length = rs by rw [hi', List.take_length]] at hrl ⊢; generalize hzs : (rs.map fun r => lnOf j r.cs r.b) = zs at *; refine Qr (Qz (Qy (Qx fun K hK => ?_))); refine Qq J J J (Qw (iadd (by omega) (by omega)) J J J J ?_); refine Ops.makeX (hl.length + 10) (j + 1) J J J (by omega) sWhs (by omega) (by omega) J (by exact lines_ge (.inl (Nat.le_refl _))) J (fun gb => ?_)
  refine Ops.weakX (hl.length + 10) (whs (List.replicate (j + 1) 0)) (Ql ..) (whs_zero (j + 1)) ?_
  rw [Zg]; refine Qv J J J (Qj (hK _ _ (Qz (Qy (Qy ?_))))); clear hK K; refine Qx (fun K hK => ?_); refine Qq J J J (Q7 J J sInts.und (List.length_map ..) J (Qq J J J (Qj (hK _ _ (Qz (Q0 ?_)))))); clear hK K
  refine Xq (α := Nat) (fun q => q ≤ c.length)
    (fun q => [(0, .ct (intC j)), (7, .own 0), (14, .ct (.ex (.slice (some ⟨gb, 0, none⟩) (j + 1) (j + 1)))), (91, .ct (intsC c)), (92, .ct (intC c.length)), (93, .ct (intC q))])
    (fun q => (hl.length + 10, .rowx (.slice (some ⟨gb, 0, none⟩) (j + 1) (j + 1)) 94 2 (whs (lnP j (c.map fun x => -x) q))) :: (0, .box 98 (tb0 hR hB hC)) :: (1, .rowx hR 95 1 (hl.map CT.ex)) :: (2, .rowx hB 3 1 (ints (rng j hl.length))) :: (3, .rowx hC 3 1 (ints (rng 0 j))) :: linesB 10 hl zs)
    (fun q => c.length - q) 0 (Nat.zero_le _) (by exact Qu (by rw [lnP_zero]) ⟨rfl, rfl, rfl, rfl, rfl, rfl, trivial⟩) ?_
  intro q hq
  (try dsimp only at hq ⊢)
  have hpl := lnP_len j (c.map fun x => -x) q; refine Qy (Qx fun K hK => ?_); refine Qw ilss J J J J (Qj (hK _ _ (Qz (Qy ?_)))); clear hK K; refine QK J (fun h2 => ?_) (fun h2 => ?_)
  · have kq : (q : Int).toNat = q := Int.toNat_natCast _
    have kq2 : (q : Int).toNat * 2 = q * 2 := by omega
    have bq := hc.get q; have eset := lnP_set j (c.map fun x => -x) q (by omega)
    have eneg : (c.map fun x => -x).getD q 0 = -(c.getD q 0) := by
      have : q < c.length := by omega
      simp [List.getD_eq_getElem?_getD, this]
    rw [eneg] at eset; generalize lnP j (c.map fun x => -x) q = cur at *; refine QU (Qz (Qy (Q0 (Qy (Qx fun K hK => ?_))))); refine Qq J J J (Qh J J J sInts (by omega) (X3 (by omega) (by omega)) J ?_); refine Xz J J J lInt J (Qv J J J (Qv J J J (Qj (hK _ _ (Qz ?_))))); clear hK K; refine Qx (fun K hK => ?_); refine Qq J J J (Qq J J J (Qq J J J ?_)); rw [kq]
    refine Ops.ineg J J (by omega) (by omega) J ?_
    refine QQ goof (of_ok _ (by omega) (by omega)) J J J J ?_
    refine Qo (hl.length + 10) (j + 1) J J (Ql ..) (by rw [X9, hpl]) J sWhs (by omega) (by omega) J ?_
    rw [kq2]
    refine stWhX J J (Ql ..) J (by omega) szWh ?_
    rw [Zg, eset]; refine Qj (hK _ _ (Qz ?_)); clear hK K; refine Qx (fun K hK => ?_)
    refine Qw (iadd (by omega) (by omega)) J J J J ?_
    refine Qq J J J (Qj (hK _ _ (Q4 ?_))); clear hK K; refine Qb (q + 1) (by omega) (by omega) (by exact Qu J ⟨rfl, rfl, rfl, rfl, rfl, by simp only [Int.natCast_add]; rfl, trivial⟩)
  have hq' : q = (c.map fun x => -x).length := by simp; omega
  rw [hq', lnP_all j _ (by simp; omega)]; generalize hgl : lnOf j (c.map fun x => -x) 0 = gl at *; refine Qr (Qz (Qy (Qx fun K hK => ?_))); refine Qq J J J (Qq J J J (Q5 J J J J (QV J J J fT0 J (QJ J J J J J lMat J (Qq J J J (XQ J J sMat J J J (XJ 109 1 J J (Qi hl.length ((hl ++ [Value.slice (some ⟨gb, 0, none⟩) (j + 1) (j + 1)]).map CT.ex) J J J J sMat (by simp) J (by omega) (by omega) (by simp) J ?_)))))))); refine Xw 112 1 (hl.length + 1) J J (by simp) (by omega) (by decide) (fun g1 c1 e1 e2 => ?_); refine Q5 J J J J (QV J J J fT0 J (Qn J J J J J zMat (Nat.le_of_ble_eq_true J) (Qj (hK _ _ (Qz (Qy ?_)))))); clear hK K; refine Qx (fun K hK => ?_); refine Qq J J J (Qv J J J (Qj (hK _ _ (Qz (Q2 ?_))))); clear hK K; refine Fin.retMO ⟨Value.slice (some ⟨g1, 0, none⟩) (hl.length + 1) c1, hB, hC, hl ++ [Value.slice (some ⟨gb, 0, none⟩) (j + 1) (j + 1)], zs ++ [gl], rng j hl.length, rng 0 j, 1⟩ rfl rfl rfl (step_B2 (by omega)) ⟨by rw [hzs, hgl], by rw [hi'], rfl, rfl, by simp; omega, fun h hh => ?_, ?_, by rw [← hi']; exact hHB, hH⟩
  · rcases List.mem_append.1 hh with hh | hh
    · exact hlines h hh
    · exact ⟨gb, by simpa using hh⟩
  · rw [← hi']; exact .inr ⟨by omega, g1, c1, e1, e2, rfl⟩
end Go.Proofs.YtdhmbgogmoaofaaGreat
namespace Go.Own
open Go.RowKit
variable {X : Ctx} {L : AL} {B : BL} {ops : Array Oper} {K : Act → World → Prop} {r : Pl} {k : Kd}
  {x y z : Operand} {d : Nat} {t t2 t' : TypeId} {pos : String} {af : Array Edge} {g : Option (Nat × Bool)}
abbrev kh (gb o m c : Nat) : Value := .slice (some ⟨gb, o, none⟩) m c
theorem Ops.cutKh {el n bytes gb o m c : Nat} {zv : Value} {kk : IntKind} {j : Int} (q : Nat) (hg : gd ops L g = some true) (hx : ev L x = some (.ct (.ex (kh gb o m c)))) (hy : ev L y = some (.ct (.ex (.int kk j)))) (hj : j = (q : Int)) (hT : SlcT X.P t el n bytes zv) (h1 : q ≤ c) (hn : Nat.blt d X.n = true)
    (h : Ops X ops r ((d, .ct (.ex (kh gb o q c))) :: L) B K) : Ops X ops (.cons ⟨some d, .slice t x none (some y) none, t', pos, af, g⟩ k r) L B K :=
  Xn (s := .ct (.ex (kh gb o q c))) hg rfl hn (fun a ρ w hI => by
    refine ⟨kh gb o q c, fun w' _ => ?_, rfl⟩
    obtain ⟨nf, i1, i2, _⟩ := hT.inf
    have he := elem_eq hT.und
    have hu : X.P.underlying t = some (.slice (X.P.elem t)) := by rw [he]; exact hT.und
    show (do pure (Next.value (← Instr.sliceAt t (a.eval x) (Option.map a.eval none) ((some y).map a.eval) (Option.map a.eval none))) : Sem Next).run X.P w' = _
    simp only [Option.map_some, Option.map_none, hI.evx hx, hI.evx hy, hj]
    refine ZQ ?_
    simp only [Instr.sliceAt, Sem.run_bind, run_underlying hT.und, Result.andThen_ok]
    rw [run_slice_h (P := X.P) (w := w') t _ m c hu kk q (by omega) (by omega)]
    rw [he, Z0 i1]
    simp [sliced, Addr.add]) h
theorem Ops.cutKl {el n bytes gb o m c : Nat} {zv : Value} {kk : IntKind} {j : Int} (q : Nat) (hg : gd ops L g = some true) (hx : ev L x = some (.ct (.ex (kh gb o m c)))) (hy : ev L y = some (.ct (.ex (.int kk j)))) (hj : j = (q : Int)) (hT : SlcT X.P t el n bytes zv) (h1 : q ≤ m) (hn : Nat.blt d X.n = true)
    (h : Ops X ops r ((d, .ct (.ex (kh gb (if c = q then o else o + q * n) (m - q) (c - q)))) :: L) B K) : Ops X ops (.cons ⟨some d, .slice t x (some y) none none, t', pos, af, g⟩ k r) L B K :=
  Xn (s := .ct (.ex (kh gb (if c = q then o else o + q * n) (m - q) (c - q)))) hg rfl hn (fun a ρ w hI => by
    refine ⟨_, fun w' _ => ?_, rfl⟩
    obtain ⟨nf, i1, i2, _⟩ := hT.inf
    have he := elem_eq hT.und
    have hu : X.P.underlying t = some (.slice (X.P.elem t)) := by rw [he]; exact hT.und
    show (do pure (Next.value (← Instr.sliceAt t (a.eval x) ((some y).map a.eval) (Option.map a.eval none) (Option.map a.eval none))) : Sem Next).run X.P w' = _
    simp only [Option.map_some, Option.map_none, hI.evx hx, hI.evx hy, hj]
    refine ZQ ?_
    simp only [Instr.sliceAt, Sem.run_bind, run_underlying hT.und, Result.andThen_ok]
    rw [run_slice_l (P := X.P) (w := w') t _ m c hu kk q (by omega) (by omega)]
    rw [he, Z0 i1, i2]
    simp only [sliced, Result.andThen_ok, Int.toNat_natCast]
    by_cases hc : c = q
    · simp [hc]
    · simp [hc, Yf]) h
theorem Ops.cutKlh {el n bytes gb o m c : Nat} {zv : Value} {kk kk2 : IntKind} {j j2 : Int} (p q : Nat) (hg : gd ops L g = some true) (hx : ev L x = some (.ct (.ex (kh gb o m c)))) (hy : ev L y = some (.ct (.ex (.int kk j)))) (hz : ev L z = some (.ct (.ex (.int kk2 j2)))) (hj : j = (p : Int)) (hj2 : j2 = (q : Int)) (hT : SlcT X.P t el n bytes zv) (h1 : p ≤ q) (h2 : q ≤ c) (hn : Nat.blt d X.n = true)
    (h : Ops X ops r ((d, .ct (.ex (kh gb (if c = p then o else o + p * n) (q - p) (c - p)))) :: L) B K) : Ops X ops (.cons ⟨some d, .slice t x (some y) (some z) none, t', pos, af, g⟩ k r) L B K :=
  Xn (s := .ct (.ex (kh gb (if c = p then o else o + p * n) (q - p) (c - p)))) hg rfl hn (fun a ρ w hI => by
    refine ⟨_, fun w' _ => ?_, rfl⟩
    obtain ⟨nf, i1, i2, _⟩ := hT.inf
    have he := elem_eq hT.und
    have hu : X.P.underlying t = some (.slice (X.P.elem t)) := by rw [he]; exact hT.und
    show (do pure (Next.value (← Instr.sliceAt t (a.eval x) ((some y).map a.eval) ((some z).map a.eval) (Option.map a.eval none))) : Sem Next).run X.P w' = _
    simp only [Option.map_some, Option.map_none, hI.evx hx, hI.evx hy, hI.evx hz, hj, hj2]
    refine ZQ ?_
    simp only [Instr.sliceAt, Sem.run_bind, run_underlying hT.und, Result.andThen_ok]
    rw [run_slice_lh (P := X.P) (w := w') t _ m c hu kk kk2 p q (by omega) (by omega) (by omega)]
    rw [he, Z0 i1, i2]
    simp only [sliced, Result.andThen_ok, Int.toNat_natCast]
    by_cases hc : c = p
    · simp [hc]
    · simp [hc, Yf]) h
theorem Ops.cutK3 {el n bytes gb o m c : Nat} {zv : Value} {kk kk2 kk3 : IntKind} {j j2 j3 : Int} {u : Operand} (hg : gd ops L g = some true) (hx : ev L x = some (.ct (.ex (kh gb o m c)))) (hy : ev L y = some (.ct (.ex (.int kk j)))) (hz : ev L z = some (.ct (.ex (.int kk2 j2)))) (hu : ev L u = some (.ct (.ex (.int kk3 j3)))) (hT : SlcT X.P t el n bytes zv) (h0 : 0 ≤ j) (h1 : j ≤ j2) (h2 : j2 ≤ j3) (h3 : j3 ≤ c) (hn : Nat.blt d X.n = true)
    (h : Ops X ops r ((d, .any) :: L) B K) : Ops X ops (.cons ⟨some d, .slice t x (some y) (some z) (some u), t', pos, af, g⟩ k r) L B K :=
  Xn (s := .any) hg rfl hn (fun a ρ w hI => by
    refine ⟨sliced (some ⟨gb, o, none⟩) j.toNat j2.toNat j3.toNat n, fun w' _ => ?_, trivial⟩
    obtain ⟨nf, i1, i2, _⟩ := hT.inf
    have he := elem_eq hT.und
    have hu' : X.P.underlying t = some (.slice (X.P.elem t)) := by rw [he]; exact hT.und
    show (do pure (Next.value (← Instr.sliceAt t (a.eval x) ((some y).map a.eval) ((some z).map a.eval) ((some u).map a.eval))) : Sem Next).run X.P w' = _
    simp only [Option.map_some, hI.evx hx, hI.evx hy, hI.evx hz, hI.evx hu]
    refine ZQ ?_
    simp only [Instr.sliceAt, Sem.run_bind, run_underlying hT.und, Result.andThen_ok]
    rw [run_slice_lhm (P := X.P) (w := w') t _ m c hu' kk kk2 kk3 j j2 j3 h0 h1 h2 (by omega)]
    rw [he, Z0 i1, i2]
    rfl) h
theorem Ops.lenKv {el : Nat} {A : Option Addr} {m c : Nat} (hg : gd ops L g = some true) (hx : ev L x = some (.ct (.ex (.slice A m c)))) (hu : X.P.underlying t = some (.slice el)) (hn : Nat.blt d X.n = true) (h : Ops X ops r ((d, .ct (.ex (.int .i64 m))) :: L) B K) :
    Ops X ops (.cons ⟨some d, .call { callee := .builtin .len, args := #[x], argTypes := #[t] }, t', pos, af, g⟩ k r) L B K :=
  Xn (s := .ct (.ex (.int .i64 m))) hg rfl hn (fun a ρ w hI => by
    refine ⟨_, fun w' _ => ZW (args := [x]) ?_, rfl⟩
    intro cs
    simp only [List.map_cons, List.map_nil, hI.evx hx]
    exact run_lenSlice hu A m c cs w') h
theorem Ops.capKv {el : Nat} {A : Option Addr} {m c : Nat} (hg : gd ops L g = some true) (hx : ev L x = some (.ct (.ex (.slice A m c)))) (hu : X.P.underlying t = some (.slice el)) (hn : Nat.blt d X.n = true) (h : Ops X ops r ((d, .ct (.ex (.int .i64 c))) :: L) B K) :
    Ops X ops (.cons ⟨some d, .call { callee := .builtin .cap, args := #[x], argTypes := #[t] }, t', pos, af, g⟩ k r) L B K :=
  Xn (s := .ct (.ex (.int .i64 c))) hg rfl hn (fun a ρ w hI => by
    refine ⟨_, fun w' _ => ZW (args := [x]) ?_, rfl⟩
    intro _
    simp only [List.map_cons, List.map_nil, hI.evx hx]
    refine ZQ ?_
    simp [Builtin.cap_, run_underlying hu, goInt]) h
theorem Is.rowK {a : Act} {ρ : Nat → Value} {w : World} (hI : Is X L B a ρ w) {i gb m c el n : Nat} {cs : List CT} (hi : bget B i = some (.rowx (kh gb 0 m c) el n cs)) (hl : cs.length = m * n) (hp : 0 < n) :
    ρ i = kh gb 0 m c ∧ ∃ (vs : List Value) (cur : Array Value), cells (Sof X B ρ) w cs vs ∧ vs.length = m * n ∧ w.heap[gb]? = some (.cells cur el (0, 0)) ∧ m ≤ c ∧ c ≤ maxLen ∧ cur.size = c * n ∧ cur.toList.take (m * n) = vs := by
  obtain ⟨hρ, m', vs, how, hc⟩ := (hI.ent i _ hi).1; have hlv := hc.length; have h1 := how.1; rw [hlv, hl] at h1; have hmm : m = m' := Nat.eq_of_mul_eq_mul_right hp h1; subst hmm; rcases how.2 with ⟨h2, _⟩ | ⟨gb', cap, cur, h2, _, hg, hnc, hcm, hcz, htk⟩
  · have h3 := hρ.symm.trans h2; cases h3
  · have h3 := hρ.symm.trans h2
    injection h3 with e1 e2 e3
    injection e1 with e1
    injection e1 with e1
    subst e1; subst e3; exact ⟨hρ, vs, cur, hc, by rw [hlv, hl], hg, hnc, hcm, hcz, htk⟩
theorem Ops.appIn {el n bytes gb m c oy q cq : Nat} {zv : Value} {cs : List CT} (e i j : Nat) (cs' : List CT) (hg : gd ops L g = some true) (hx : ev L x = some (.ct (.ex (kh gb 0 i c)))) (hy : ev L y = some (.ct (.ex (kh gb oy q cq)))) (hoy : q = 0 ∨ oy = j * n) (hi : bget B e = some (.rowx (kh gb 0 m c) el n cs)) (hl : cs.length = m * n)
    (h1 : i + q ≤ m) (h2 : j + q ≤ m) (hT : SlcT X.P t el n bytes zv) (ho : ones cs = true) (hcs : cs' = cs.take (i * n) ++ (cs.drop (j * n)).take (q * n)) (hn : Nat.blt d X.n = true)
    (h : Ops X ops r ((d, .ct (.ex (kh gb 0 (i + q) c))) :: killL e L) (bset B e (.rowx (kh gb 0 (i + q) c) el n cs')) K) : Ops X ops (.cons ⟨some d, .call { callee := .builtin .append, args := #[x, y], argTypes := #[t, t] }, t', pos, af, g⟩ .any r) L B K := fun a ρ w hI => by
  show wpO _ _ _ _ _ _
  unfold wpO
  rw [if_pos (Zp (o := ⟨some d, _, t', pos, af, g⟩) hI hg)]
  obtain ⟨hρ, vs, cur, hc, hlv, hgb, hmc, hcm, hcz, htk⟩ := hI.rowK hi hl hT.pos
  obtain ⟨nf, i1, i2, i3, i4⟩ := hT.inf
  have hmn : (i + q) * n ≤ m * n := Nat.mul_le_mul_right _ h1
  have hjn : (j + q) * n ≤ m * n := Nat.mul_le_mul_right _ h2
  have hcn : m * n ≤ c * n := Nat.mul_le_mul_right _ hmc
  rw [Nat.add_mul] at hmn hjn
  have hcl : cur.toList.length = c * n := by simpa using hcz
  have hnl : ((vs.drop (j * n)).take (q * n)).length = q * n := by rw [List.length_take, List.length_drop, hlv]; omega
  have hone : ∀ u ∈ (vs.drop (j * n)).take (q * n), u.oneCell' = true := fun u hu => ones_cells ho hc u (List.mem_of_mem_drop (List.mem_of_mem_take hu))
  have hnews : ∀ p u, ((vs.drop (j * n)).take (q * n))[p]? = some u → w.cell? ((⟨gb, oy, none⟩ : Addr).add p) = some u := fun p u hu => by
    rcases hoy with h0 | h0
    · have h9 : (vs.drop (j * n)).take (q * n) = [] := List.eq_nil_of_length_eq_zero (by rw [hnl, h0, Nat.zero_mul])
      rw [h9] at hu; simp at hu
    · rw [h0]
      exact take_cells (by rw [hlv]; exact htk) hgb p u hu
  generalize hN : (vs.drop (j * n)).take (q * n) = news at *
  have hrun := run_append_room (P := X.P) w t t' el nf hT.und i1 gb i c cur hgb ⟨gb, oy, none⟩ q cq news (by rw [i2]; exact hnl) hnews hone (by omega) (by rw [i2, hnl, ← Array.length_toList, hcl]; omega)
  rw [i2] at hrun
  unfold Oper.wp
  rw [show (execOp a.eval ⟨some d, .call { callee := .builtin .append, args := #[x, y], argTypes := #[t, t] }, t', pos, af, g⟩).run X.P w = .ok (.value (kh gb 0 (i + q) c)) (w.setRow gb (cur.toList.take (i * n) ++ news ++ cur.toList.drop (i * n + news.length)).toArray) from
    ZW (args := [x, y]) (fun _ => by simp only [List.map_cons, List.map_nil, hI.evx hx, hI.evx hy]; exact ZQ hrun)]
  show wpX _ _ _ _ (a.put (some d) _) _
  have hvt : vs.take (i * n) = cur.toList.take (i * n) := by rw [← htk, List.take_take, Nat.min_eq_left (by omega)]
  have hcc : cells (Sof X B ρ) w cs' (vs.take (i * n) ++ news) := by rw [hcs]; exact (hc.take _).append (by rw [← hN]; exact (hc.drop _).take _)
  have hW := Is.write (i := e) (v := kh gb 0 (i + q) c) (e' := .rowx (kh gb 0 (i + q) c) el n cs') (w' := w.setRow gb (cur.toList.take (i * n) ++ news ++ cur.toList.drop (i * n + news.length)).toArray) (hI.killL e) hi rfl rfl rfl (by simp)
    (fun p hp hne => setRow_other _ _ _ _ (fun e => hne (by rw [e, hρ]; rfl))) (.inl (by rw [hρ]; rfl))
    (fun S' hk => ⟨rfl, i + q, vs.take (i * n) ++ news, ⟨by rw [List.length_append, List.length_take, hnl, hlv, Nat.add_mul]; omega, .inr ⟨gb, c, _, rfl, Nat.zero_le _, setRow_heap w gb cur _ el _ hgb, by omega, hcm, by
      simp only [List.size_toArray, List.length_append, List.length_take, List.length_drop, hnl, hcl]; omega, by
      rw [List.append_assoc, ← List.append_assoc, hvt]
      have : (cur.toList.take (i * n) ++ news).length = (i + q) * n := by rw [List.length_append, List.length_take, hnl, hcl, Nat.add_mul]; omega
      rw [← this]; exact List.take_left⟩⟩, hcc.mono hk⟩) (.inr (noN_killL e L)) (.inr rfl)
  exact h _ _ _ ((hW.bext (Zh hi)).put (s := .ct (.ex _)) (ZV hn) rfl)
theorem Ops.clearK {el n bytes gb m c oy q cq : Nat} {zv : Value} {cs : List CT} (e : Nat) (hg : gd ops L g = some true) (hx : ev L x = some (.ct (.ex (kh gb oy q cq)))) (hoy : q = 0 ∨ oy = m * n) (hi : bget B e = some (.rowx (kh gb 0 m c) el n cs)) (hl : cs.length = m * n) (h1 : m + q ≤ c) (hT : SlcT X.P t el n bytes zv) (hz1 : ∀ v ∈ zv.cells.toList, v.oneCell' = true)
    (h : Ops X ops r L (bset B e (.rowx (kh gb 0 m c) el n cs)) K) : Ops X ops (.cons ⟨none, .call { callee := .builtin .clear, args := #[x], argTypes := #[t] }, t', pos, af, g⟩ .any r) L B K := fun a ρ w hI => by
  show wpO _ _ _ _ _ _
  unfold wpO
  rw [if_pos (Zp (o := ⟨none, _, t', pos, af, g⟩) hI hg)]
  obtain ⟨hρ, vs, cur, hc, hlv, hgb, hmc, hcm, hcz, htk⟩ := hI.rowK hi hl hT.pos
  obtain ⟨nf, i1, i2, i3, i4⟩ := hT.inf
  have hcn : (m + q) * n ≤ c * n := Nat.mul_le_mul_right _ h1
  rw [Nat.add_mul] at hcn
  have hcl : cur.toList.length = c * n := by simpa using hcz
  have hzl : (Builtin.zeroCells zv.cells q).toList.length = q * n := by rw [Array.length_toList, size_zeroCells, hT.zs]
  have hone : ∀ u ∈ (Builtin.zeroCells zv.cells q).toList, u.oneCell' = true := fun u hu => by
    rw [zero_flat] at hu
    obtain ⟨l, hl, hu⟩ := List.mem_flatten.1 hu
    rw [List.eq_of_mem_replicate hl] at hu
    exact hz1 u hu
  have hrun : ∃ cur' : Array Value, (Builtin.clear_ #[t] t' #[kh gb oy q cq]).run X.P w = .ok (.tuple #[]) (w.setRow gb cur') ∧ cur'.size = c * n ∧ cur'.toList.take (m * n) = vs := by
    rcases Nat.eq_zero_or_pos q with h0 | h0
    · subst h0; refine ⟨cur, ?_, hcz, htk⟩; rw [setRow_self w gb cur el (0, 0) hgb]; simp [Builtin.clear_, run_underlying hT.und]
    · have hoy' : oy = m * n := by omega
      subst hoy'; have hst := run_storeCells_at (P := X.P) gb (m * n) el (Builtin.zeroCells zv.cells q).toList 0 cur w hgb (by rw [hzl, ← Array.length_toList, hcl]; omega) hone; simp only [Nat.add_zero] at hst; refine ⟨(cur.toList.take (m * n) ++ (Builtin.zeroCells zv.cells q).toList ++ cur.toList.drop (m * n + (Builtin.zeroCells zv.cells q).toList.length)).toArray, ?_, ?_, ?_⟩; rotate_left
      · show (cur.toList.take (m * n) ++ (Builtin.zeroCells zv.cells q).toList ++ cur.toList.drop (m * n + (Builtin.zeroCells zv.cells q).toList.length)).toArray.size = _; simp only [List.size_toArray, List.length_append, List.length_take, List.length_drop, hzl, hcl]; omega
      · show ((cur.toList.take (m * n) ++ (Builtin.zeroCells zv.cells q).toList ++ cur.toList.drop (m * n + (Builtin.zeroCells zv.cells q).toList.length)).toArray.toList).take (m * n) = _; rw [List.append_assoc, htk, ← hlv]; exact List.take_left
      · obtain ⟨q', rfl⟩ : ∃ q', q = q' + 1 := ⟨q - 1, by omega⟩; have hz : (zeroValue el).run X.P w = .ok zv w := Yg (by rw [i1]; simp [i4]) w; simp only [Builtin.clear_, List.getElem?_toArray, List.getElem?_cons_zero, Sem.run_bind, Sem.run_pure, Result.andThen_ok, run_underlying hT.und, hz, hst]
  obtain ⟨cur', hrun, hs1, hs2⟩ := hrun; unfold Oper.wp
  rw [show (execOp a.eval ⟨none, .call { callee := .builtin .clear, args := #[x], argTypes := #[t] }, t', pos, af, g⟩).run X.P w = .ok (.value (.tuple #[])) (w.setRow gb cur') from
    ZW (args := [x]) (fun _ => by simp only [List.map_cons, List.map_nil, hI.evx hx]; exact ZQ hrun)]
  show wpX _ _ _ _ (a.put none _) _; rw [put_none]
  have hW := Is.write (i := e) (v := ρ e) (e' := .rowx (kh gb 0 m c) el n cs) (w' := w.setRow gb cur') hI hi J J J (by simp)
    (fun p hp hne => setRow_other _ _ _ _ (fun e => hne (by rw [e, hρ]; rfl))) (.inl J)
    (fun S' hk => ⟨hρ, m, vs, ⟨hlv, .inr ⟨gb, c, cur', hρ, Nat.zero_le _, setRow_heap w gb cur _ el _ hgb, hmc, hcm, hs1, hs2⟩⟩, hc.mono hk⟩) (.inl J) (.inr J)
  exact h _ _ _ (hW.bext (Zh hi))
end Go.Own
namespace Go.Own
open Go.RowKit
variable {X : Ctx} {L : AL} {B : BL} {ops : Array Oper} {K : Act → World → Prop} {r : Pl} {k : Kd}
  {x y z : Operand} {d : Nat} {t t2 t' : TypeId} {pos : String} {af : Array Edge} {g : Option (Nat × Bool)}
theorem run_append_grow_zeros {P : Program} (w : World) (t tn ty e : TypeId) (i : TypeInfo) (z : Value) (k kn : IntKind) (ht : P.underlying t = some (.slice e)) (htn : P.underlying tn = some (.int kn)) (hi : P.info? e = some i) (hz : i.zero = some z)
    (b : Addr) (sLen sCap : Nat) (olds : List Value) (hlo : olds.length = sLen * i.size) (holds : ∀ j v, olds[j]? = some v → w.cell? (b.add j) = some v)
    (n : Nat) (h0 : 0 < n) (hs : 0 < i.size) (hg : sCap < sLen + n) (h63 : ((sLen + n : Nat) : Int) ≤ 9223372036854775807) (h48 : n * i.bytes ≤ 281474976710656) (hfit : Builtin.nextslicecap (sLen + n) sCap * i.bytes ≤ 281474976710656) :
    (Builtin.append_ #[t, tn] ty #[.slice (some b) sLen sCap, .int k n]).run P w =
      .ok (.slice (some ⟨w.heap.size, 0, none⟩) (sLen + n) (grownCap w (sLen + n) sCap e)) (w.drew.alloc (.cells (olds.toArray ++ Builtin.zeroCells z.cells n ++ Builtin.zeroCells z.cells (grownCap w (sLen + n) sCap e - (sLen + n))) e)) := by
  have hw : IntKind.i64.wrap (n : Int) = n := by rw [IntKind.wrap_i64]; omega
  have hn : ¬ (sLen + n ≤ sCap) := by omega
  have h63' : ¬ (9223372036854775807 < ((sLen : Int) + (n : Int))) := by omega
  have h48' : ¬ (281474976710656 < Builtin.nextslicecap (sLen + n) sCap * i.bytes) := by omega
  have h48i : ¬ (281474976710656 < (n : Int) * (i.bytes : Int)) := by
    rw [← Int.natCast_mul]; omega
  have hneg : ¬ ((n : Int) < 0) := by omega
  have hns : ¬ (n * i.size = 0) := Nat.mul_ne_zero (by omega) (by omega); have hfo := run_firstCells_some (P := P) w.drew i.size sLen b sLen sCap olds hlo (by simpa using holds); simp [Builtin.append_, run_underlying ht, run_underlying htn, sizeOf, typeInfo, zeroValue, hi, hz, asInt, asIntOf, hw, hn, hneg, hns, h63', h48', h48i, Question.forced, hfo, newRow, grownCap]
theorem Ops.appZK {el n bytes gb m c i tn : Nat} {zv : Value} {kk : IntKind} {j : Int} {cs : List CT} (e b q : Nat) (hg : gd ops L g = some true) (hx : ev L x = some (.ct (.ex (kh gb 0 i c)))) (hy : ev L y = some (.ct (.ex (.int .i64 j)))) (hj : j = (q : Int)) (hi : bget B e = some (.rowx (kh gb 0 m c) el n cs)) (hl : cs.length = m * n)
    (him : i ≤ m) (hq : 0 < q) (hc : c < i + q) (hT : SlcT X.P t el n bytes zv) (htn : X.P.underlying tn = some (.int kk)) (hb : (i + q) * bytes ≤ 140737488355328) (hmx : i + q ≤ 140737488355328) (hN : noN b L = true) (hB : bget B b = none) (hn : Nat.blt d X.n = true)
    (h : Ops X ops r ((d, .own b) :: L) ((b, .row el n (cs.take (i * n) ++ zinit zv q)) :: B) K) : Ops X ops (.cons ⟨some d, .call { callee := .builtin .append, args := #[x, y], argTypes := #[t, tn] }, t', pos, af, g⟩ .any r) L B K :=
  Ops.mkE (k := .any) rfl hg rfl hn hN hB (fun a ρ w hI => by
    obtain ⟨hρ, vs, cur, hcl, hlv, hgb, hmc, hcm, hcz, htk⟩ := hI.rowK hi hl hT.pos
    obtain ⟨nf, i1, i2, i3, i4⟩ := hT.inf
    have hin : i * n ≤ m * n := Nat.mul_le_mul_right _ him
    have hbq : q * bytes ≤ (i + q) * bytes := Nat.mul_le_mul_right _ (by omega)
    have hol : (vs.take (i * n)).length = i * n := by rw [List.length_take, hlv]; omega
    have holds : ∀ p u, (vs.take (i * n))[p]? = some u → w.cell? ((⟨gb, 0, none⟩ : Addr).add p) = some u := fun p u hu => by
      have := take_cells (vs := vs) (q := i * n) (o := 0) (by rw [hlv]; exact htk) hgb p u (by simpa using hu)
      exact this
    have hr := run_append_grow_zeros (P := X.P) w t tn t' el nf zv .i64 kk hT.und htn i1 i4 ⟨gb, 0, none⟩ i c (vs.take (i * n)) (by rw [i2]; exact hol) holds q hq (by rw [i2]; exact hT.pos) hc (by omega) (by rw [i3]; omega) (by rw [i3]; exact growslice_fits hc hb)
    refine ⟨_, _, ZW (args := [x, y]) (fun _ => by
      simp only [List.map_cons, List.map_nil, hI.evx hx, hI.evx hy, hj]
      exact ZQ hr), ((Below.refl _ _).drew).alloc (Nat.le_refl _) _, fun g hg => ?_, fun S' hk => ⟨i + q, vs.take (i * n) ++ (List.replicate q zv.cells.toList).flatten, ?_, ?_⟩⟩
    · injection hg with hg; subst hg; exact Nat.le_refl _
    · have hge := grownCap_ge w (i + q) c el
      have hlen : ∀ q, (List.replicate q zv.cells.toList).flatten.length = q * n := fun q => by
        rw [Xm (k := n) (fun e he => by rw [List.eq_of_mem_replicate he]; simpa using hT.zs)]; simp
      refine ⟨by rw [List.length_append, hol, hlen, Nat.add_mul], .inr ⟨w.heap.size, grownCap w (i + q) c el, _, rfl, Nat.zero_le _, heap_alloc_new w.drew _, hge, grownCap_le_maxLen w (i + q) c el (by simp only [maxLen]; omega), ?_, ?_⟩⟩
      · rw [← Array.length_toList, Array.toList_append, Array.toList_append, zero_flat, zero_flat, List.length_append, List.length_append, hlen, hlen, List.toList_toArray, hol, ← Nat.add_mul, ← Nat.add_mul]; congr 1; omega
      · rw [Array.toList_append, Array.toList_append, zero_flat, List.toList_toArray]
        have : (vs.take (i * n) ++ (List.replicate q zv.cells.toList).flatten).length = (i + q) * n := by rw [List.length_append, hol, hlen, Nat.add_mul]
        rw [← this]; exact List.take_left
    · have h1 := (hcl.take (i * n)).append (Y9 (S := Sof X B ρ) (w := w) (List.replicate q zv.cells.toList).flatten)
      rw [Yc]
      exact h1.mono hk) h
theorem Ops.copyG {el n bytes gb m c o dl dc : Nat} {zv : Value} {cs : List CT} (e lo q : Nat) (ds cs' : List CT) (hg : gd ops L g = some true) (hx : ev L x = some (.ct (.ex (kh gb o dl dc)))) (ho : o = lo * n) (hi : bget B e = some (.rowx (kh gb 0 m c) el n cs)) (hl : cs.length = m * n) (hq : q ≤ dl) (hlo : lo + q ≤ m) (hT : SlcT X.P t el n bytes zv)
    (hy : ∀ a ρ w, Is X L B a ρ w → ∃ A cc us, a.eval y = .slice (some A) q cc ∧ us.length = q * n ∧ cells (Sof X B ρ) w ds us ∧ ∀ j u, us[j]? = some u → w.cell? (A.add j) = some u) (hone : ones ds = true) (hcs : cs' = spl cs (lo * n) ds) (hn : Nat.blt d X.n = true)
    (h : Ops X ops r ((d, .any) :: L) (bset B e (.rowx (kh gb 0 m c) el n cs')) K) : Ops X ops (.cons ⟨some d, .call { callee := .builtin .copy, args := #[x, y], argTypes := #[t, t2] }, t', pos, af, g⟩ .any r) L B K := fun a ρ w hI => by
  show wpO _ _ _ _ _ _
  unfold wpO
  rw [if_pos (Zp (o := ⟨some d, _, t', pos, af, g⟩) hI hg)]
  obtain ⟨hρ, vs, cur, hc, hlv, hgb, hmc, hcm, hcz, htk⟩ := hI.rowK hi hl hT.pos
  obtain ⟨nf, i1, i2, i3, i4⟩ := hT.inf
  obtain ⟨A, cc, us, hA, hul, huc, hum⟩ := hy a ρ w hI
  have hcl : cur.toList.length = c * n := by simpa using hcz
  have hmn : (lo + q) * n ≤ m * n := Nat.mul_le_mul_right _ hlo
  have hcn : m * n ≤ c * n := Nat.mul_le_mul_right _ hmc
  rw [Nat.add_mul] at hmn
  have hds : ds.length = q * n := by rw [← huc.length, hul]
  have hones : ∀ u ∈ us, u.oneCell' = true := ones_cells hone huc
  have hload : (loadCells A (q * n)).run X.P w = .ok us.toArray w := by
    have := run_loadCells_list (P := X.P) w A us hum
    rwa [hul] at this
  have hstore : (storeCells ⟨gb, lo * n, none⟩ us).run X.P w = .ok () (w.setRow gb (cur.toList.take (lo * n) ++ us ++ cur.toList.drop (lo * n + us.length)).toArray) := by
    have := run_storeCells_at (P := X.P) gb (lo * n) el us 0 cur w hgb (by rw [hul, ← Array.length_toList, hcl]; omega) hones
    simpa using this
  have hrun : (execOp a.eval ⟨some d, .call { callee := .builtin .copy, args := #[x, y], argTypes := #[t, t2] }, t', pos, af, g⟩).run X.P w = .ok (.value (goInt q)) (w.setRow gb (cur.toList.take (lo * n) ++ us ++ cur.toList.drop (lo * n + us.length)).toArray) :=
    ZW (args := [x, y]) (fun _ => by
      simp only [List.map_cons, List.map_nil, hI.evx hx, hA]
      refine ZQ ?_
      have hmin : Nat.min q dl = q := Nat.min_eq_left hq
      simp [Builtin.copy_, run_underlying hT.und, Builtin.lenOf, hmin, Z0 i1, i2, Builtin.firstCells, hload, hstore, ho])
  unfold Oper.wp; rw [hrun]; show wpX _ _ _ _ (a.put (some d) (goInt q)) _
  have hW := Is.write (i := e) (v := ρ e) (e' := (Ent.rowx (kh gb 0 m c) el n cs).putc (lo * n) ds) (w' := w.setRow gb (cur.toList.take (lo * n) ++ us ++ cur.toList.drop (lo * n + us.length)).toArray) hI hi J J J (by simp)
    (fun p hp hne => setRow_other _ _ _ _ (fun e => hne (by rw [e, hρ]; rfl))) (.inl J) (fun S' hk => Ent.put_ok (hI.ent e _ hi).1 (by rw [hρ]; rfl) hgb huc (by rw [hds]; show _ ≤ cs.length; rw [hl]; omega) hk) (.inl J) (.inr J)
  have hpc : (Ent.rowx (kh gb 0 m c) el n cs).putc (lo * n) ds = .rowx (kh gb 0 m c) el n cs' := by rw [hcs]; rfl
  rw [hpc] at hW; exact h _ _ _ ((hW.bext (Zh hi)).put (s := .any) (ZV hn) trivial)
theorem src_fr {n : Nat} {es : List (List CT)} (hy : ev L y = some (.ct (.fr (sliceT n es)))) (hne : es ≠ []) : ∀ a ρ w, Is X L B a ρ w → ∃ A cc us, a.eval y = .slice (some A) es.length cc ∧ us.length = es.length * n ∧ cells (Sof X B ρ) w es.flatten us ∧ ∀ j u, us[j]? = some u → w.cell? (A.add j) = some u := fun a ρ w hI => by
  obtain ⟨A, c, h1, h2, h3, h4, h5⟩ := hI.ev hy
  obtain ⟨b, o, rfl, hS, hb, us, hc, hm⟩ := h5 hne
  exact ⟨_, c, us, h1, by rw [hc.length, Xm h4], hc, fun j u hu => by rw [Yf]; exact hm j u hu⟩
theorem src_kh {gb m c o q qc el n bytes tt : Nat} {zv : Value} {cs : List CT} (e lo : Nat) (hy : ev L y = some (.ct (.ex (kh gb o q qc)))) (ho : o = lo * n) (hi : bget B e = some (.rowx (kh gb 0 m c) el n cs)) (hl : cs.length = m * n) (hlo : lo + q ≤ m) (hT : SlcT X.P tt el n bytes zv) :
    ∀ a ρ w, Is X L B a ρ w → ∃ A cc us, a.eval y = .slice (some A) q cc ∧ us.length = q * n ∧ cells (Sof X B ρ) w ((cs.drop (lo * n)).take (q * n)) us ∧ ∀ j u, us[j]? = some u → w.cell? (A.add j) = some u := fun a ρ w hI => by
  obtain ⟨hρ, vs, cur, hc, hlv, hgb, hmc, hcm, hcz, htk⟩ := hI.rowK hi hl hT.pos
  have hmn : (lo + q) * n ≤ m * n := Nat.mul_le_mul_right _ hlo
  rw [Nat.add_mul] at hmn
  refine ⟨⟨gb, o, none⟩, qc, (vs.drop (lo * n)).take (q * n), hI.evx hy, by rw [List.length_take, List.length_drop, hlv]; omega, (hc.drop _).take _, fun j u hu => ?_⟩
  rw [ho]
  exact take_cells (by rw [hlv]; exact htk) hgb j u hu
theorem Ops.callRO {f : FuncId} {args : List Operand} {tys : Array TypeId} {As : List CT} {u : Value} (i : Nat) {e : Ent} (hgo : InGo X.P f) (hok : Ok X.P f As (.ex u)) (hg : gd ops L g = some true) (hi : bget B i = some e) (hargs : ∀ a ρ w, Is X L B a ρ w → cells (Sof X (bdel B i) ρ) w As (args.map a.eval)) (hk : k.mk = true) (hn : Nat.blt d X.n = true)
    (h : Ops X ops r ((d, .ct (.ex u)) :: L) B K) : Ops X ops (.cons ⟨some d, .call { callee := .value (.func f), args := args.toArray, argTypes := tys }, t, pos, af, g⟩ k r) L B K := fun a ρ w hI => by
  refine wpX_makes k hk ?_
  unfold wpO
  rw [if_pos (Zp (o := ⟨some d, _, t, pos, af, g⟩) hI hg)]
  unfold Oper.wp
  have hrun : (execOp a.eval ⟨some d, .call { callee := .value (.func f), args := args.toArray, argTypes := tys }, t, pos, af, g⟩).run X.P w = .ok (.enter f (args.map a.eval).toArray) w := by
    show (do let D ← resolve a.eval { callee := .value (.func f), args := args.toArray, argTypes := tys } t; invoke D.target D.args : Sem Next).run X.P w = _; have hf : a.eval (.func f) = .func (.func f) #[] #[] := rfl; simp only [resolve, hf, Deferred.ofValue, Sem.run_bind, Sem.run_pure, Result.andThen_ok, invoke]; rw [hgo]
    congr 2
    simp
  rw [hrun]
  have hfr : ∀ k, w.heap.size ≤ k → Sof X (bdel B i) ρ k := fun k hk => ⟨(hI.freshS k hk).1, fun j e' hj => by
    by_cases hji : j = i
    · subst hji; rw [Z7] at hj; cases hj
    · rw [Xg _ hji] at hj; exact (hI.freshS k hk).2 j e' hj⟩
  refine Calls.mono (hok (Sof X (bdel B i) ρ) w _ hfr (hargs a ρ w hI)) ?_
  rintro e w' ⟨v, rfl, hv, hb⟩
  exact ⟨hb, h _ ρ w' ((hI.below hb).put (s := .ct (.ex u)) (ZV hn) hv)⟩
theorem Is.readX {a : Act} {ρ : Nat → Value} {w : World} (hI : Is X L B a ρ w) {i el n : Nat} {v : Value} {es : List (List CT)} (hi : bget B i = some (.rowx v el n es.flatten)) (hk : ∀ e ∈ es, e.length = n) (hp : 0 < n) (hbor : ∀ gb, X.bor gb → X.S0 gb) : (CT.fr (sliceT n es)).p (Sof X (bdel B i) ρ) w v := by
  have h := (hI.ent i _ hi).1; have := hI.frozen_val (e2 := .row el n es.flatten) (T := sliceT n es) hi ⟨es, rfl, hk, hp, rfl⟩ h.2 (fun g _ hb => hbor g hb); rw [h.1] at this; exact this
theorem Is.readK {a : Act} {ρ : Nat → Value} {w : World} (hI : Is X L B a ρ w) {i el n gb m c : Nat} {es : List (List CT)} (q : Nat) (hi : bget B i = some (.rowx (kh gb 0 m c) el n es.flatten)) (hm : es.length = m) (hk : ∀ e ∈ es, e.length = n) (hp : 0 < n) (hq : q ≤ m) (hm0 : 0 < m) (hbor : ∀ gb, X.bor gb → X.S0 gb) : (CT.fr (sliceT n (es.take q))).p (Sof X (bdel B i) ρ) w (kh gb 0 q c) := by
  obtain ⟨A, cc, h1, h2, h3, h4, h5⟩ := hI.readX hi hk hp hbor
  injection h1 with e1 e2 e3
  subst e3; obtain ⟨b, o, h6, h7⟩ := h5 (fun h => by rw [h] at hm; simp at hm; omega); rw [h6] at e1
  injection e1 with e1
  injection e1 with e1 e4
  subst e1; subst e4; refine ⟨some ⟨gb, 0, none⟩, c, by rw [List.length_take, Nat.min_eq_left (by omega)], by rw [List.length_take]; omega, h3, fun e he => hk e (List.mem_of_mem_take he), fun _ => ⟨gb, 0, rfl, ?_⟩⟩; have := cut_memAt h7 hk 0 q
  simpa using this
def Sl.ren (a : Nat) : Sl → Sl
  | .own _ => .own a
  | s => s
theorem OkM.nm {P : Program} {f : FuncId} {As : List CT} {e : Ent} {α : Type} {J : α → Prop} {R : α → Sl} {k : Nat} {e' : α → Ent} (a : Nat) (h : OkM P f (As.map Sl.ct) [(0, e)] [] J R (fun q => [(k, e' q)])) (hR : ∀ q, J q → (∃ c, R q = .ct c) ∨ R q = .own k) :
    OkM P f (As.map Sl.ct) [(a, e)] [] J (fun q => (R q).ren a) (fun q => [(a, e' q)]) := by
  intro S w ρ vs hS hSe hH hsl
  have g1 : ∀ {α' : Type} (c : Nat) (x : Ent) (i : Nat) (y : Ent), bget [(c, x)] i = some y ↔ i = c ∧ y = x := fun c x i y => by
    by_cases hc : c = i
    · subst hc; rw [Ql]; constructor
      · intro h; injection h with h; exact ⟨rfl, h.symm⟩
      · rintro ⟨_, rfl⟩; rfl
    · rw [Q3 _ _ hc]; constructor
      · intro h; cases h
      · rintro ⟨h, _⟩; exact absurd h.symm hc
  have g := @g1 Unit
  have hSn : Sn S [(0, e)] (fun _ => ρ a) = Sn S [(a, e)] ρ := by
    funext k
    refine propext ⟨fun h => ⟨h.1, fun i x hi => ?_⟩, fun h => ⟨h.1, fun i x hi => ?_⟩⟩
    · obtain ⟨rfl, rfl⟩ := (g a e i x).1 hi; exact h.2 0 _ ((g 0 _ 0 _).2 ⟨rfl, rfl⟩)
    · obtain ⟨rfl, rfl⟩ := (g 0 e i x).1 hi; exact h.2 a _ ((g a _ a _).2 ⟨rfl, rfl⟩)
  have hslots : ∀ (As : List CT) (vs : List Value) (ρ' : Nat → Value), slots (Sn S [(a, e)] ρ) ρ w (As.map Sl.ct) vs → slots (Sn S [(a, e)] ρ) ρ' w (As.map Sl.ct) vs := by
    intro As
    induction As with
    | nil =>
      intro vs ρ' h
      cases vs with
      | nil => trivial
      | cons v vs => exact h.elim
    | cons c As ih =>
      intro vs ρ' h
      cases vs with
      | nil => exact h.elim
      | cons v vs => exact ⟨h.1, ih vs ρ' h.2⟩
  refine Calls.mono (h S w (fun _ => ρ a) vs hS (fun i x hi gb hgb => hSe a e ((g a _ a _).2 ⟨rfl, rfl⟩) gb hgb) ⟨fun i x hi => ?_, fun i j x x' hi hj hij => ?_⟩ (by rw [hSn]; exact hslots As vs _ hsl)) ?_
  · obtain ⟨rfl, rfl⟩ := (g 0 e i x).1 hi; rw [hSn]; exact hH.ent a _ ((g a _ a _).2 ⟨rfl, rfl⟩)
  · obtain ⟨rfl, rfl⟩ := (g 0 e i x).1 hi; obtain ⟨rfl, rfl⟩ := (g 0 _ j x').1 hj; exact absurd Y hij
  · rintro en w' ⟨v, q, ρ', rfl, hJ, hv, hH', hfx, hnew, hF⟩
    have hSn2 : Sn S [(a, e' q)] (fun _ => ρ' k) = Sn S [(k, e' q)] ρ' := by
      funext b
      refine propext ⟨fun h => ⟨h.1, fun i x hi => ?_⟩, fun h => ⟨h.1, fun i x hi => ?_⟩⟩
      · obtain ⟨rfl, rfl⟩ := (g k _ i x).1 hi; exact h.2 a _ ((g a _ a _).2 ⟨rfl, rfl⟩)
      · obtain ⟨rfl, rfl⟩ := (g a _ i x).1 hi; exact h.2 k _ ((g k _ k _).2 ⟨rfl, rfl⟩)
    refine ⟨v, q, fun _ => ρ' k, rfl, hJ, ?_, ⟨fun i x hi => ?_, fun i j x x' hi hj hij => ?_⟩, fun i hi => absurd hi (by simp), fun i x hi gb hgb => ?_, ?_⟩
    · show Sl.p (Sn S [(a, e' q)] (fun _ => ρ' k)) (fun _ => ρ' k) w' ((R q).ren a) v; rw [hSn2]; rcases hR q hJ with ⟨c, hc⟩ | hc
      · rw [hc] at hv ⊢; exact hv
      · rw [hc] at hv ⊢; exact hv
    · obtain ⟨rfl, rfl⟩ := (g a _ i x).1 hi; rw [hSn2]; exact hH'.ent k _ ((g k _ k _).2 ⟨rfl, rfl⟩)
    · obtain ⟨rfl, rfl⟩ := (g a _ i x).1 hi; obtain ⟨rfl, rfl⟩ := (g _ _ j x').1 hj; exact absurd Y hij
    · obtain ⟨rfl, rfl⟩ := (g a _ i x).1 hi; rcases hnew k _ ((g k _ k _).2 ⟨rfl, rfl⟩) gb hgb with h1 | ⟨j, f', h1, h2⟩
      · exact .inl h1
      · exact .inr ⟨i, e, (g i _ i _).2 ⟨rfl, rfl⟩, h2⟩
    · have hb : (fun kk => ∃ j f', bget [(0, e)] j = some f' ∧ blk ((fun _ => ρ a) j) = some kk) = fun kk => ∃ j f', bget [(a, e)] j = some f' ∧ blk (ρ j) = some kk := by
        funext kk
        refine propext ⟨fun ⟨j, f', h1, h2⟩ => ⟨a, e, (g a _ a _).2 ⟨rfl, rfl⟩, h2⟩, fun ⟨j, f', h1, h2⟩ => ?_⟩; obtain ⟨rfl, rfl⟩ := (g a _ j f').1 h1; exact ⟨0, _, (g 0 _ 0 _).2 ⟨rfl, rfl⟩, h2⟩
      rw [hb] at hF; exact hF
theorem St.factI {c : Code} {Q : Exit → Act → World → Prop} (p : Prop) (hp : ∀ a ρ w, Is X L B a ρ w → p) (h : p → St X L B c Q) : St X L B c Q := fun a ρ w hI => h (hp a ρ w hI) a ρ w hI
def notN (a j : Nat) : Bool := !Nat.beq a j
theorem Ops.call1 {f : FuncId} {args : List Operand} {tys : Array TypeId} {As : List CT} {e : Ent} {α : Type} {J : α → Prop} {R : α → Sl} {e' : α → Ent} (a : Nat) (hgo : InGo X.P f) (hok : OkM X.P f (As.map Sl.ct) [(a, e)] [] J R (fun q => [(a, e' q)])) (hg : gd ops L g = some true) (hargs : evS L args = some (As.map Sl.ct)) (hn : Nat.blt d X.n = true)
    (hbor : ∀ gb, X.bor gb → X.S0 gb) (hi : bget B a = some e) (hfix : ∀ p ∈ X.fix, p.1 ≠ a ∧ (bget B p.1).isSome = true) (hR : ∀ q j, (R q = .own j ∨ ∃ o, R q = .loc j o) → j = a)
    (h : ∀ q, J q → Ops X ops r ((d, R q) :: keepL (notN a) L) ((a, e' q) :: bdel B a) K) : Ops X ops (.cons ⟨some d, .call { callee := .value (.func f), args := args.toArray, argTypes := tys }, t, pos, af, g⟩ .any r) L B K := by
  refine Ops.callM (bdel B a) (notN a) hgo hok hg hargs hn hbor (fun j => ?_) (fun j hj => ?_) (fun j hj => ?_) (fun p hp => ?_) (fun q j hq => ?_) h
  · show _ = bget ((a, e) :: bdel B a) j; by_cases hja : a = j
    · subst hja; rw [Ql]; exact hi
    · rw [Q3 _ _ hja, Xg _ (Ne.symm hja)]
  · have hja : a ≠ j := fun he => by subst he; rw [Z7] at hj; cases hj
    exact ⟨by rw [Q3 _ _ hja]; rfl, fun q => by rw [Q3 _ _ hja]; rfl⟩
  · have hja : a ≠ j := fun he => by subst he; simp [notN] at hj
    exact .inr fun q => by rw [Q3 _ _ hja]; rfl
  · have := hfix p hp; exact .inl (by rw [Xg _ this.1]; exact this.2)
  · rw [hR q j hq, Ql]; rfl
end Go.Own
namespace Go.Own
section
variable {P : Program} {n : Nat} {S : BSet} {w0 : World} {B0 : BL} {fx : List Nat} {ρ0 : Nat → Value} {α : Type} {J : α → Prop} {R : α → Sl} {B1 : α → BL} {L : AL} {B : BL}
theorem Fin.retMOS {fn : Func} {s : Nat} {sl : Sl} (q : α) (hfn : fn.results = #[.tmp s]) (hs : look L s = some sl) (hR : R q = sl) (hB : ∀ i e, bget (B1 q) i = some e → bget B i = some e) (hfx1 : ∀ i ∈ fx, isBx (bget (B1 q) i) = true) (hJ : J q) :
    Fin (lentM P n S w0 B0 fx ρ0) L B (fun a w => bodyPost P fn (Own.postM S w0 ρ0 B0 fx J R B1) .ret a w) := fun a ρ w hI => by
  refine ⟨hI.defers, a.tmps.getD s undef, ?_, hI.postMS q hB hfx1 hJ (by rw [hR]; exact hI.slot s sl hs)⟩
  simp [results, hfn]
end
theorem spl_app {α : Type} {A D ds : List α} {o : Nat} (h : A.length = o) : spl (A ++ D) o ds = A ++ ds ++ D.drop ds.length := by
  unfold spl; rw [← h, List.take_left, ← List.drop_drop, List.drop_left]
end Go.Own
namespace Go.Proofs.YtdhmbgogmoaofaaGreat
open Go.Own Go.Limbs
attribute [local irreducible] St Ops Go.Own.Fin Ok OkM
abbrev whsC (zs : List Int) : CT := .fr (sliceT 2 (zs.map whCs))
theorem whs_app (a b : List Int) : whs (a ++ b) = whs a ++ whs b := by simp [whs]
theorem whs_take (l : List Int) (i : Nat) : (whs l).take (i * 2) = whs (l.take i) := by
  induction l generalizing i with
  | nil => simp [whs]
  | cons z l ih =>
    cases i with
    | zero => simp [whs]
    | succ i =>
      have e : whs (z :: l) = boolC (decide (z < 0)) :: natC z.natAbs :: whs l := rfl; have e2 : whs ((z :: l).take (i + 1)) = boolC (decide (z < 0)) :: natC z.natAbs :: whs (l.take i) := rfl; rw [e, e2, show (i + 1) * 2 = (i * 2 + 1) + 1 by omega, List.take_succ_cons, List.take_succ_cons, ih]
theorem whs_drop (l : List Int) (i : Nat) : (whs l).drop (i * 2) = whs (l.drop i) := by
  induction l generalizing i with
  | nil => simp [whs]
  | cons z l ih =>
    cases i with
    | zero => simp [whs]
    | succ i =>
      have e : whs (z :: l) = boolC (decide (z < 0)) :: natC z.natAbs :: whs l := rfl; rw [e, show (i + 1) * 2 = (i * 2 + 1) + 1 by omega, List.drop_succ_cons, List.drop_succ_cons, ih]; rfl
theorem ones_whs (l : List Int) : ones (whs l) = true := by
  induction l with
  | nil => rfl
  | cons z l ih =>
    have e : whs (z :: l) = boolC (decide (z < 0)) :: natC z.natAbs :: whs l := rfl; rw [e]; simp only [ones, ih]; rfl
theorem ones_ints (l : List Int) : ones (ints l) = true := by
  induction l with
  | nil => rfl
  | cons z l ih =>
    have e : ints (z :: l) = intC z :: ints l := rfl; rw [e]; simp only [ones, ih]; rfl
theorem erase_td {α : Type} (l : List α) (i : Nat) : l.take i ++ l.drop (i + 1) = l.eraseIdx i := (List.eraseIdx_eq_take_drop_succ ..).symm
theorem goInsert : InGo Tryz.prog 126 := InGo.of Tryz.func126 (by kernel_rfl) (by kernel_rfl)
set_option maxHeartbeats 4000000 in
theorem Insert_ok (gb m : Nat) (l : List Int) (i : Nat) (x : Int) (hl : l.length = m) (hi : i < m) (hm : m ≤ 200) :
    OkM Tryz.prog 126 ([.ex (kh gb 0 m m), intC i, whsC [x]].map Sl.ct) [(0, .rowx (kh gb 0 m m) 94 2 (whs l))] [] (fun _ : Unit => True) (fun _ => .own 1) (fun _ => [(1, .row 94 2 (whs (l.take i ++ x :: l.drop i)))]) := by
  have hwl := X9 l
  refine OkM.enter Tryz.func126 J _ Tryz.ntmps126 J (fun i hi => absurd hi (by simp)) ?_
  intro S w ρ0 hbor; refine Qy (Qx fun K hK => ?_); refine Qv J J J (Qj (hK _ _ (Qz (Qy ?_)))); clear hK K; refine Qx (fun K hK => ?_); refine Qq J J J (Qq J J J (Ops.cutKl i J J J J sWhs (by omega) J ?_)); refine Qj (hK _ _ (Qz (Qy ?_))); clear hK K; refine Qx (fun K hK => ?_); refine Qq J J J (Q7 J J sWhs.und (m := 1) (List.length_map ..) J (Qv J J J (Qj (hK _ _ (Qz (Qy (Qy ?_))))))); clear hK K; refine Qx (fun K hK => ?_); refine Qq J J J (Qw ieql J J J J (Qj (hK _ _ (Qz (XY J (QU (Qz (Qy ?_)))))))); clear hK K; refine Qx (fun K hK => ?_); refine Qq J J J (Ops.lenKv J J sWhs.und J (Qv J J J (Qj (hK _ _ (Qz (Qy (Qy ?_))))))); clear hK K; refine Qx (fun K hK => ?_); refine Qq J J J (Qq J J J (Qw ieql J J J J (Qj (hK _ _ (Qz ?_))))); clear hK K; refine QK J (fun h => ?_) (fun h => ?_)
  · exfalso; omega
  refine QU (Qz (Qy (Qy (Qx fun K hK => ?_)))); refine Qq J J J (Qq J J J (Qw (iadd (by omega) (by omega)) J J J J ?_)); refine Qq J J J (Ops.capKv J J sWhs.und J (Qw igtr J J J J (Qj (hK _ _ (Qz ?_))))); clear hK K; refine QK J (fun h => ?_) (fun h => ?_)
  · refine Qy (Qx fun K hK => ?_); refine Qq J J J (Qq J J J (Ops.cutKh i J J J J sWhs (by omega) J ?_)); refine Qq J J J (Qq J J J (Qw (iadd (by omega) (by omega)) J J J J ?_)); refine Qq J J J (Qw (isub (by omega) (by omega)) J J J J ?_)
    refine Ops.appZK 0 1 (m + 1 - i) J J J (by omega) J (by rw [hwl]; omega) (by omega) (by omega) (by omega) sWhs Tryz.underlying3 (by omega) (by omega) J J J ?_
    rw [whs_take]; have hzl : (zinit (.agg #[.bool false, .slice none 0 0]) (m + 1 - i)).length = (m + 1 - i) * 2 := zinit_len sWhs _
    have htl : (whs (l.take i)).length = i * 2 := by rw [X9, List.length_take]; omega
    generalize zinit (.agg #[.bool false, .slice none 0 0]) (m + 1 - i) = Z at *; refine Xw 40 1 (m + 1) J J (by rw [List.length_append, htl, hzl]; omega) (by omega) (by decide) (fun g2 c2 hc1 hc2 => ?_); refine Qv J J J (Qj (hK _ _ (Qz (Qy ?_)))); clear hK K; refine Qx (fun K hK => ?_); refine Qq J J J (Qq J J J (Ops.cutKl i J J J J sWhs (by omega) J ?_)); rw [if_neg (show ¬ c2 = i by omega), Nat.zero_add]; refine Qq J J J (Ops.copyG 1 i 1 (whCs x) (whs (l.take i) ++ whCs x ++ Z.drop 2) J J J J (by rw [List.length_append, htl, hzl]; omega) (by omega) (by omega) sWhs (src_fr (es := [whCs x]) J (by simp)) J (by rw [spl_app htl]; rfl) J ?_); refine Qj (hK _ _ (Qz (Qy ?_))); clear hK K; refine Xv mixed 8 (.p 0 (.p 1 (.p 2 (.p 3 (.p 4 (.p 5 (.p 6 (.p 7 (.a 8 .done))))))))) (by kernel_rfl) (fun K hK => ?_); refine Qq J J J (Qq J J J (Qq J J J (Qw (iadd (by omega) (by omega)) J J J J ?_)))
    refine Ops.cutKl (i + 1) J J J (by omega) sWhs (by omega) J ?_
    rw [if_neg (show ¬ c2 = i + 1 by omega), Nat.zero_add]; refine Qq J J J (Qq J J J (Ops.cutKl i J J J J sWhs (by omega) J ?_)); rw [if_neg (show ¬ m = i by omega), Nat.zero_add]
    have h2l : (whs (l.take i) ++ whCs x).length = (i + 1) * 2 := by rw [List.length_append, htl]; show i * 2 + 2 = _; omega
    have hdl : (whs (l.drop i)).length = (m - i) * 2 := by rw [X9, List.length_drop]; omega
    refine Ops.copyG 1 (i + 1) (m - i) (whs (l.drop i)) (whs (l.take i ++ x :: l.drop i)) J J J J (by rw [List.length_append, h2l, List.length_drop, hzl]; omega) (by omega) (by omega) sWhs ?_ (ones_whs _) ?_ J ?_
    · intro a ρ w hI; obtain ⟨A, cc, us, a1, a2, a3, a4⟩ := src_kh (y := .tmp 53) 0 i rfl rfl rfl (by rw [X9, hl]) (by omega) sWhs a ρ w hI; refine ⟨A, cc, us, a1, a2, ?_, a4⟩; rw [whs_drop, List.take_of_length_le (l := whs (l.drop i)) (by rw [hdl]; omega)] at a3; exact a3
    · have hz0 : (Z.drop 2).drop (whs (l.drop i)).length = [] := List.drop_of_length_le (by rw [List.length_drop, hzl, hdl]; omega); rw [spl_app h2l, hz0, List.append_nil, List.append_assoc, whs_app]; rfl
    refine Qj (hK _ _ (Qz (Qy ?_))); clear hK K; refine Qx (fun K hK => ?_); refine Qq J J J (Qv J J J (Qj (hK _ _ (Qz (Q2 (QW ?_)))))); clear hK K; refine Fin.link 6 1 J J (Fin.retMOS () J J J (fun j e hj => ?_) (fun i hi => absurd hi (by simp)) trivial); by_cases hj1 : 1 = j
    · subst hj1; exact hj
    · rw [Q3 _ _ hj1] at hj; cases hj
  · exfalso; omega
theorem goDelete_ints : InGo Tryz.prog 131 := InGo.of Tryz.func131 (by kernel_rfl) (by kernel_rfl)
set_option maxHeartbeats 4000000 in
theorem Delete_ints (gb m c : Nat) (l : List Int) (i : Nat) (hl : l.length = m) (hi : i < m) (hc : m ≤ c) (hm : m ≤ 200) :
    OkM Tryz.prog 131 ([.ex (kh gb 0 m c), intC i, intC (i + 1)].map Sl.ct) [(0, .rowx (kh gb 0 m c) 3 1 (ints l))] [] (fun _ : Unit => c ≤ maxLen) (fun _ => .ct (.ex (kh gb 0 (m - 1) c))) (fun _ => [(0, .rowx (kh gb 0 (m - 1) c) 3 1 (ints (l.eraseIdx i)))]) := by
  refine OkM.enter Tryz.func131 J _ Tryz.ntmps131 J (fun i hi => absurd hi (by simp)) ?_
  intro S w ρ0 hbor; refine St.factI (c ≤ maxLen) (fun a ρ w hI => (hI.rowK (i := 0) J (by simp [hl]) (by decide)).2.choose_spec.choose_spec.2.2.2.2.1) (fun hcx => ?_); refine Qy (Qx fun K hK => ?_); refine Qv J J J (Qj (hK _ _ (Qz (Qy ?_)))); clear hK K; refine Qx (fun K hK => ?_); refine Qq J J J (Qq J J J (Qq J J J (Qq J J J (Ops.lenKv J J sInts.und J (Ops.cutK3 J J J J J sInts (by omega) (by omega) (by omega) (by omega) J ?_))))); refine Qj (hK _ _ (Qz (Qy (Qy ?_)))); clear hK K; refine Qx (fun K hK => ?_); refine Qq J J J (Qq J J J (Qw ieql J J J J (Qj (hK _ _ (Qz ?_))))); clear hK K; refine QK J (fun h => ?_) (fun h => ?_)
  · exfalso; omega
  refine QU (Qz (Qy (Qx fun K hK => ?_))); refine Qq J J J (Ops.lenKv J J sInts.und J (Qv J J J (Qj (hK _ _ (Qz (Qy ?_)))))); clear hK K; refine Xv mixed 6 (.p 0 (.p 1 (.p 2 (.p 3 (.p 4 (.p 5 (.a 6 (.p 7 .done)))))))) (by kernel_rfl) (fun K hK => ?_); refine Qq J J J (Qq J J J (Ops.cutKh i J J J J sInts (by omega) J ?_)); refine Qq J J J (Qq J J J (Ops.cutKl (i + 1) J J J (by omega) sInts (by omega) J ?_))
  refine Ops.appIn 0 i (i + 1) (ints (l.eraseIdx i)) J J J (by split <;> omega) J (by simp [hl]) (by omega) (by omega) sInts (ones_ints _) ?_ J ?_
  · rw [Nat.mul_one, Nat.mul_one, Nat.mul_one, ← erase_td, Xo]
    congr 1
    · simp [ints, List.map_take]
    · rw [List.take_of_length_le (by simp [hl])]; simp [ints, List.map_drop]
  rw [show i + (m - (i + 1)) = m - 1 by omega]; refine Qv J J J (Qj (hK _ _ (Qz (Qy ?_)))); clear hK K; refine Qx (fun K hK => ?_); refine Qq J J J (Qq J J J (Ops.lenKv J J sInts.und J (Qq J J J (Ops.cutKlh (m - 1) m J J J J (by omega) J sInts (by omega) (by omega) J ?_)))); rw [if_neg (show ¬ c = m - 1 by omega), Nat.zero_add]
  refine Ops.clearK 0 J J (.inr J) J (by simp [List.length_eraseIdx, hl, hi]) (by omega) sInts (by decide) ?_
  refine Qj (hK _ _ (Qz (Qy ?_))); clear hK K; refine Qx (fun K hK => ?_); refine Qq J J J (Qv J J J (Qj (hK _ _ (Qz (Q2 ?_))))); clear hK K; refine Y3 () [_] rfl (QZ J QX) J (fun _ => rfl) hcx
theorem goDelete_whs : InGo Tryz.prog 132 := InGo.of Tryz.func132 (by kernel_rfl) (by kernel_rfl)
set_option maxHeartbeats 4000000 in
theorem Delete_whs (gb m c : Nat) (l : List Int) (i : Nat) (hl : l.length = m) (hi : i < m) (hc : m ≤ c) (hm : m ≤ 200) :
    OkM Tryz.prog 132 ([.ex (kh gb 0 m c), intC i, intC (i + 1)].map Sl.ct) [(0, .rowx (kh gb 0 m c) 94 2 (whs l))] [] (fun _ : Unit => c ≤ maxLen) (fun _ => .ct (.ex (kh gb 0 (m - 1) c))) (fun _ => [(0, .rowx (kh gb 0 (m - 1) c) 94 2 (whs (l.eraseIdx i)))]) := by
  have hwl := X9 l
  refine OkM.enter Tryz.func132 J _ Tryz.ntmps132 J (fun i hi => absurd hi (by simp)) ?_
  intro S w ρ0 hbor; refine St.factI (c ≤ maxLen) (fun a ρ w hI => (hI.rowK (i := 0) J (by rw [hwl, hl]) (by decide)).2.choose_spec.choose_spec.2.2.2.2.1) (fun hcx => ?_); refine Qy (Qx fun K hK => ?_); refine Qv J J J (Qj (hK _ _ (Qz (Qy ?_)))); clear hK K; refine Qx (fun K hK => ?_); refine Qq J J J (Qq J J J (Qq J J J (Qq J J J (Ops.lenKv J J sWhs.und J (Ops.cutK3 J J J J J sWhs (by omega) (by omega) (by omega) (by omega) J ?_))))); refine Qj (hK _ _ (Qz (Qy (Qy ?_)))); clear hK K; refine Qx (fun K hK => ?_); refine Qq J J J (Qq J J J (Qw ieql J J J J (Qj (hK _ _ (Qz ?_))))); clear hK K; refine QK J (fun h => ?_) (fun h => ?_)
  · exfalso; omega
  refine QU (Qz (Qy (Qx fun K hK => ?_))); refine Qq J J J (Ops.lenKv J J sWhs.und J (Qv J J J (Qj (hK _ _ (Qz (Qy ?_)))))); clear hK K; refine Xv mixed 6 (.p 0 (.p 1 (.p 2 (.p 3 (.p 4 (.p 5 (.a 6 (.p 7 .done)))))))) (by kernel_rfl) (fun K hK => ?_); refine Qq J J J (Qq J J J (Ops.cutKh i J J J J sWhs (by omega) J ?_)); refine Qq J J J (Qq J J J (Ops.cutKl (i + 1) J J J (by omega) sWhs (by omega) J ?_))
  refine Ops.appIn 0 i (i + 1) (whs (l.eraseIdx i)) J J J (by split <;> omega) J (by rw [hwl, hl]) (by omega) (by omega) sWhs (ones_whs _) ?_ J ?_
  · rw [← erase_td, whs_app, whs_take, whs_drop, List.take_of_length_le (l := whs (l.drop (i + 1))) (by rw [X9, List.length_drop]; omega)]
  rw [show i + (m - (i + 1)) = m - 1 by omega]; refine Qv J J J (Qj (hK _ _ (Qz (Qy ?_)))); clear hK K; refine Qx (fun K hK => ?_); refine Qq J J J (Qq J J J (Ops.lenKv J J sWhs.und J (Qq J J J (Ops.cutKlh (m - 1) m J J J J (by omega) J sWhs (by omega) (by omega) J ?_)))); rw [if_neg (show ¬ c = m - 1 by omega), Nat.zero_add]
  refine Ops.clearK 0 J J (.inr J) J (by rw [X9, List.length_eraseIdx, if_pos (by omega), hl]) (by omega) sWhs (by decide) ?_
  refine Qj (hK _ _ (Qz (Qy ?_))); clear hK K; refine Qx (fun K hK => ?_); refine Qq J J J (Qv J J J (Qj (hK _ _ (Qz (Q2 ?_))))); clear hK K; refine Y3 () [_] rfl (QZ J QX) J (fun _ => rfl) hcx
end Go.Proofs.YtdhmbgogmoaofaaGreat
namespace Go.Own
variable {X : Ctx} {L : AL} {B : BL} {ops : Array Oper} {K : Act → World → Prop} {r : Pl} {k : Kd}
theorem Is.hand {a : Act} {ρ : Nat → Value} {w : World} (hI : Is X L B a ρ w) {i el n m : Nat} {v : Value} {cs : List CT} (hi : bget B i = some (.rowx v el n cs)) (hl : cs.length = m * n) (hm : 0 < m) (hp : 0 < n) : ∃ gb c, v = kh gb 0 m c ∧ m ≤ c ∧ c ≤ maxLen := by
  obtain ⟨h1, n', vs, how, hc⟩ := (hI.ent i _ hi).1; have hl' := hc.length; rw [how.1, hl] at hl'; have hnm : n' = m := Nat.eq_of_mul_eq_mul_right hp hl'; subst hnm; rcases how.2 with ⟨h2, h3⟩ | ⟨gb, cap, cur, h2, h3, h4, h5, h6, _⟩
  · omega
  · exact ⟨gb, cap, h1.symm.trans h2, h5, h6⟩
theorem Ops.hand {l : Pl} (i m : Nat) {el n : Nat} {v : Value} {cs : List CT} (hi : bget B i = some (.rowx v el n cs)) (hl : cs.length = m * n) (hm : 0 < m) (hp : 0 < n) (h : ∀ gb cc, v = kh gb 0 m cc → m ≤ cc → cc ≤ maxLen → Ops X ops l L B K) : Ops X ops l L B K := fun a ρ w hI => by
  obtain ⟨gb, cc, h1, h2, h3⟩ := hI.hand hi hl hm hp
  exact h gb cc h1 h2 h3 a ρ w hI
end Go.Own
namespace Go.Proofs.YtdhmbgogmoaofaaGreat
open Go.Own Go.Limbs
attribute [local irreducible] St Ops Go.Own.Fin Ok OkM
theorem goIndex_ints : InGo Tryz.prog 128 := InGo.of Tryz.func128 (by kernel_rfl) (by kernel_rfl)
theorem Index_ints (xs : List Int) (v : Int) (hl : xs.length < 4611686018427387904) : Ok Tryz.prog 128 [intsC xs, intC v] (intC (idxI (fun x => decide (v = x)) xs)) := by
  refine Ok.enter Tryz.func128 J _ Tryz.ntmps128 J ?_
  intro S w; refine Qy (Qx fun K hK => ?_); refine Qv J J J (Qj (hK _ _ (Qz (Qy (Qy ?_))))); clear hK K; refine Qx (fun K hK => ?_); refine Qq J J J (Q7 J J sInts.und (List.length_map ..) J (Qq J J J (Qj (hK _ _ (Qz (Q0 ?_)))))); clear hK K
  refine Xq (α := Nat) (fun i => i ≤ xs.length ∧ ∀ j, j < i → decide (v = xs.getD j 0) = false)
    (fun i => [(0, .ct (intsC xs)), (1, .ct (intC v)), (7, .ct (intC xs.length)), (8, .ct (intC i))]) (fun _ => []) (fun i => xs.length - i) 0 ⟨Nat.zero_le _, fun j h => absurd h (Nat.not_lt_zero j)⟩ (by exact Qu J ⟨rfl, rfl, rfl, rfl, trivial⟩) ?_
  intro i ⟨hi, hv⟩; dsimp only; refine Qy (Qx fun K hK => ?_); refine Qw ilss J J J J (Qj (hK _ _ (Qz (Qy ?_)))); clear hK K; refine QK J (fun h => ?_) (fun h => ?_)
  · have e2 : (i : Int).toNat = i := Int.toNat_natCast i; refine QU (Qz (Qy (Q0 (Qy (Qx fun K hK => ?_))))); refine Qq J J J (Qv J J J (Qj (hK _ _ (Qz (Qy ?_))))); clear hK K; refine Qx (fun K hK => ?_); refine Qq J J J (Qq J J J (Qq J J J (Qh J J J sInts (by omega) (X3 (by omega) (by omega)) J ?_))); refine Xz J J J lInt J (Qw ieql J J J J (Qj (hK _ _ (Qz ?_)))); clear hK K; refine QK J (fun h2 => ?_) (fun h2 => ?_)
    · rw [e2] at h2; refine Qy (Qx fun K hK => ?_); refine Qq J J J (Qv J J J (Qj (hK _ _ (Qz (Q2 (Qe (QW (QW (Qe (QW ?_)))))))))); clear hK K; refine Q1 [_] rfl (QZ J QX) (by rw [idxI_hit (p := fun x => decide (v = x)) (z := 0) (by omega) (decide_eq_true h2) hv]; rfl) J
    · rw [e2] at h2; refine QU (Qz (Qx fun K hK => ?_))
      refine Qw (iadd (by omega) (by omega)) J J J J ?_
      refine Qq J J J (Qj (hK _ _ (Q4 ?_))); clear hK K; refine Qb (i + 1) (by omega) ⟨by omega, ?_⟩ (by exact Qu J ⟨rfl, rfl, rfl, by simp only [Int.natCast_add]; rfl, trivial⟩); intro j hj; rcases Nat.lt_or_ge j i with h3 | h3
      · exact hv j h3
      · have : j = i := by omega
        rw [this]; exact decide_eq_false h2
  · have hi' : i = xs.length := by omega
    refine Qr (Qz (Qy (Qx fun K hK => ?_))); refine Qv J J J (Qj (hK _ _ (Qz (Q2 ?_)))); clear hK K; refine Q1 [_] rfl (QZ J QX) (by rw [idxI_miss (fun j hj => hv j (by omega))]; rfl) J
theorem whs_at {zs : List Int} {j : Int} (h0 : 0 ≤ j) (h : j < (zs.length : Int)) : (zs.map whCs)[j.toNat]? = some (whCs (zs.getD j.toNat 0)) := map_at whCs 0 h0 h
theorem goIndexFunc_whs : InGo Tryz.prog 129 := InGo.of Tryz.func129 (by kernel_rfl) (by kernel_rfl)
theorem IndexFunc_whs (xs : List Int) (f : FuncId) (p : Int → Bool) (hgo : InGo Tryz.prog f) (hf : ∀ x ∈ xs, Ok Tryz.prog f [whC x] (boolC (p x))) (hl : xs.length < 4611686018427387904) : Ok Tryz.prog 129 [whsC xs, (.ex (.func (.func f) #[] #[]))] (intC (idxI p xs)) := by
  refine Ok.enter Tryz.func129 J _ Tryz.ntmps129 J ?_
  intro S w; refine Qy (Qx fun K hK => ?_); refine Qv J J J (Qj (hK _ _ (Qz (Qy (Qy ?_))))); clear hK K; refine Qx (fun K hK => ?_); refine Qq J J J (Q7 J J sWhs.und (List.length_map ..) J (Qq J J J (Qj (hK _ _ (Qz (Q0 ?_)))))); clear hK K
  refine Xq (α := Nat) (fun i => i ≤ xs.length ∧ ∀ j, j < i → p (xs.getD j 0) = false)
    (fun i => [(0, .ct (whsC xs)), (1, .ct (.ex (.func (.func f) #[] #[]))), (7, .ct (intC xs.length)), (8, .ct (intC i))]) (fun _ => []) (fun i => xs.length - i) 0 ⟨Nat.zero_le _, fun j h => absurd h (Nat.not_lt_zero j)⟩ (by exact Qu J ⟨rfl, rfl, rfl, rfl, trivial⟩) ?_
  intro i ⟨hi, hv⟩; dsimp only; refine Qy (Qx fun K hK => ?_); refine Qw ilss J J J J (Qj (hK _ _ (Qz (Qy ?_)))); clear hK K; refine QK J (fun h => ?_) (fun h => ?_)
  · have e2 : (i : Int).toNat = i := Int.toNat_natCast i; refine QU (Qz (Qy (Q0 (Qy (Qx fun K hK => ?_))))); refine Qq J J J (Qv J J J (Qj (hK _ _ (Qz (Qy ?_))))); clear hK K; refine Qx (fun K hK => ?_); refine Qq J J J (Qq J J J (Qq J J J (Qh J J J sWhs (by omega) (whs_at (by omega) (by omega)) J ?_))); rw [e2]; refine Xd (n := 2) J J J lWh J J (Ops.callF hgo J (hf _ (X1 (by omega))) J J J J ?_); refine Qj (hK _ _ (Qz ?_)); clear hK K; refine Za J (fun h2 => ?_) (fun h2 => ?_)
    · refine Qy (Qx fun K hK => ?_); refine Qq J J J (Qv J J J (Qj (hK _ _ (Qz (Q2 (Qe (QW (QW (Qe (QW ?_)))))))))); clear hK K; refine Q1 [_] rfl (QZ J QX) (by rw [idxI_hit (by omega) h2 hv]; rfl) J
    · refine QU (Qz (Qx fun K hK => ?_))
      refine Qw (iadd (by omega) (by omega)) J J J J ?_
      refine Qq J J J (Qj (hK _ _ (Q4 ?_))); clear hK K; refine Qb (i + 1) (by omega) ⟨by omega, ?_⟩ (by exact Qu J ⟨rfl, rfl, rfl, by simp only [Int.natCast_add]; rfl, trivial⟩); intro j hj; rcases Nat.lt_or_ge j i with h3 | h3
      · exact hv j h3
      · have : j = i := by omega
        rw [this]; exact h2
  · have hi' : i = xs.length := by omega
    refine Qr (Qz (Qy (Qx fun K hK => ?_))); refine Qv J J J (Qj (hK _ _ (Qz (Q2 ?_)))); clear hK K; refine Q1 [_] rfl (QZ J QX) (by rw [idxI_miss (fun j hj => hv j (by omega))]; rfl) J
theorem gostart1 : InGo Tryz.prog 130 := InGo.of Tryz.func130 (by kernel_rfl) (by kernel_rfl)
theorem start1_ok (x : Int) : Ok Tryz.prog 130 [whC x] (boolC (decide (x ≠ 0))) := by
  refine Ok.enter Tryz.func130 J _ Tryz.ntmps130 J ?_
  intro S w; refine Qy (Qx fun K hK => ?_); refine XZ 4 J J J J J J J (Qv J J J (Qj (hK _ _ (Qz (Qy ?_))))); clear hK K; refine Qx (fun K hK => ?_); refine Qt (n := 2) J J J J J lWh J (QQ gosign (Yi x) J J J J (Qw ineq J J J J (Qv J J J (Qj (hK _ _ (Qz (Q2 ?_))))))); clear hK K
  refine Q1 [_] rfl (QZ J QX) ?_ J
  have : decide (x ≠ 0) = decide (x.sign ≠ 0) := by
    have := sgn_eq (z := x); by_cases h : x = 0
    · simp [h]
    · simp [h]
  rw [this]; rfl
end Go.Proofs.YtdhmbgogmoaofaaGreat
namespace Go.Own
variable {X : Ctx} {L : AL} {B : BL} {ops : Array Oper} {K : Act → World → Prop} {r : Pl} {k : Kd}
theorem Is.shrink {a : Act} {ρ : Nat → Value} {w : World} (hI : Is X L B a ρ w) {i gb m c el n : Nat} {cs : List CT} (q : Nat) (hi : bget B i = some (.rowx (kh gb 0 m c) el n cs)) (hl : cs.length = m * n) (hp : 0 < n) (hq : q ≤ m) :
    Is X (Own.killL i L) (bset B i (.rowx (kh gb 0 q c) el n (cs.take (q * n)))) a (upd ρ i (kh gb 0 q c)) w := by
  obtain ⟨hρ, vs, cur, hc, hlv, hgb, hmc, hcm, hcz, htk⟩ := hI.rowK hi hl hp; have hjn : q * n ≤ m * n := Nat.mul_le_mul_right _ hq
  have hW := Is.write (i := i) (v := kh gb 0 q c) (e' := .rowx (kh gb 0 q c) el n (cs.take (q * n))) (w' := w) (hI.killL i) hi J J J (Nat.le_refl _) (fun _ _ _ => rfl) (.inl (by rw [hρ]; rfl))
    (fun S' hk => ⟨rfl, q, vs.take (q * n), ⟨by rw [List.length_take, hlv]; omega, .inr ⟨gb, c, cur, rfl, Nat.zero_le _, hgb, by omega, hcm, hcz, by rw [← htk, List.take_take]; congr 1; omega⟩⟩, (hc.take _).mono hk⟩) (.inr (noN_killL i L)) (.inr J)
  exact hW.bext (Zh hi)
theorem Ops.shrink {l : Pl} {gb m c el n : Nat} {cs : List CT} (i q : Nat) (hi : bget B i = some (.rowx (kh gb 0 m c) el n cs)) (hl : cs.length = m * n) (hp : 0 < n) (hq : q ≤ m)
    (h : Ops X ops l (killL i L) (bset B i (.rowx (kh gb 0 q c) el n (cs.take (q * n)))) K) : Ops X ops l L B K := fun a ρ w hI => h a (upd ρ i (kh gb 0 q c)) w (hI.shrink q hi hl hp hq)
end Go.Own
namespace Go.Proofs.YtdhmbgogmoaofaaGreat
open Go.Own Go.Limbs
def Tv.wh (T H : Tv) : Tv := { T with hR := H.hR, hB := H.hB, hC := H.hC, hl := H.hl }
theorem pvt_wh (T H : Tv) (r s : Nat) : pvt (T.wh H) r s = (pvt T r s).wh H := rfl
theorem Gd.wh {T H : Tv} (G : Gd T) (h : H.hl.length = T.rows.length) : Gd (T.wh H) := ⟨⟨h, G.fit.row, G.fit.bas, G.fit.few, G.fit.thin⟩, G.short, G.den, G.dens⟩
theorem levS_wh (T H : Tv) (s : Nat) : ∀ i, levS (T.wh H) s i = levS T s i
  | 0 => rfl
  | i + 1 => by simp only [levS, levS_wh T H s i]; rfl
theorem RunOk.wh {gi : Nat} {T' H : Tv} {s : Int} : ∀ {k : Nat} {T : Tv}, RunOk gi T' s k T → H.hl.length = T.rows.length → RunOk gi (T'.wh H) s k (T.wh H)
  | 0, T, ⟨G, h1, h2⟩, hl => ⟨G.wh hl, by rw [h1], by rw [levS_wh]; exact h2⟩
  | k + 1, T, ⟨G, h1, h2, h3⟩, hl => by
    refine ⟨G.wh hl, h1, ?_, ?_⟩
    · rw [levS_wh]; exact h2
    · rw [levS_wh]; exact RunOk.wh h3 (by rw [Zq]; exact hl)
theorem pvt_bas (T : Tv) (r s : Nat) : (pvt T r s).bas.length = T.bas.length := by simp [pvt]
theorem Ze (T : Tv) (r s : Nat) : (pvt T r s).col.length = T.col.length := by simp [pvt]
theorem RunOk.lens {gi : Nat} {T' : Tv} {s : Int} : ∀ {k : Nat} {T : Tv}, RunOk gi T' s k T → T'.rows.length = T.rows.length ∧ T'.bas.length = T.bas.length ∧ T'.col.length = T.col.length
  | 0, T, ⟨G, h1, h2⟩ => by subst h1; exact ⟨rfl, rfl, rfl⟩
  | k + 1, T, ⟨G, h1, h2, h3⟩ => by
    have := RunOk.lens h3
    rw [Zq, pvt_bas, Ze] at this
    exact this
theorem RunOk.last {gi : Nat} {T' : Tv} {s : Int} : ∀ {k : Nat} {T : Tv}, RunOk gi T' s k T → Gd T'
  | 0, T, ⟨G, h1, h2⟩ => by subst h1; exact G
  | k + 1, T, ⟨G, h1, h2, h3⟩ => RunOk.last h3
def wrS (T : Tv) : Nat → Int
  | 0 => -1
  | i + 1 => if T.at i T.col.length < 0 ∧ (wrS T i < 0 ∨ T.at i T.col.length + -(T.at (wrS T i).toNat T.col.length) < 0) then i else wrS T i
theorem wrS_bd (T : Tv) : ∀ i, -1 ≤ wrS T i ∧ wrS T i < i
  | 0 => by simp [wrS]
  | i + 1 => by
    have := wrS_bd T i
    simp only [wrS]
    split <;> omega
def insX (m k : Nat) : Int := if k < m then -1 else if k = m + 1 then 1 else 0
def insL (m q k : Nat) (l : List Int) : List Int := l.take q ++ insX m k :: l.drop q
theorem insL_len {m q k : Nat} {l : List Int} (h : q ≤ l.length) : (insL m q k l).length = l.length + 1 := by
  unfold insL; rw [List.length_append, List.length_cons, List.length_take, List.length_drop]; omega
def insP (m q : Nat) (rows : List (List Int)) (i : Nat) : List (List Int) := (List.range rows.length).map fun k => if k < i then insL m q k (rows.getD k []) else rows.getD k []
theorem insP_len (m q : Nat) (rows : List (List Int)) (i : Nat) : (insP m q rows i).length = rows.length := by simp [insP]
theorem insP_zero (m q : Nat) (rows : List (List Int)) : insP m q rows 0 = rows := by
  unfold insP; rw [show (fun k => if k < 0 then insL m q k (rows.getD k []) else rows.getD k []) = fun k => rows.getD k [] by funext k; rw [if_neg (by omega)]]; exact YY rows []
theorem insP_at (m q : Nat) (rows : List (List Int)) (i : Nat) (h : i < rows.length) : (insP m q rows i).getD i [] = rows.getD i [] := by
  unfold insP; rw [Zb _ _ _ h, if_neg (by omega)]
theorem insP_set (m q : Nat) (rows : List (List Int)) (i : Nat) (h : i < rows.length) : (insP m q rows i).set i (insL m q i (rows.getD i [])) = insP m q rows (i + 1) := by
  unfold insP; refine Y0 _ _ _ i _ h (fun j hj => ?_); by_cases e : j = i
  · subst e; rw [if_pos rfl, if_pos (by omega)]
  · rw [if_neg e]; by_cases h2 : j < i
    · rw [if_pos h2, if_pos (by omega)]
    · rw [if_neg h2, if_neg (by omega)]
def insT (T : Tv) (art : Int) : Tv := { T with rows := insP T.bas.length T.col.length (T.rows ++ [List.replicate (T.col.length + 1) 0]) (T.rows.length + 1), col := T.col ++ [art], hl := T.hl ++ [default] }
def fIx (xs : List Int) (v : Int) : Int := idxI (fun x => decide (v = x)) xs
theorem idxI_bd {α : Type} (p : α → Bool) (xs : List α) : -1 ≤ idxI p xs ∧ idxI p xs < xs.length := by
  unfold idxI; split
  · rename_i h
    have h1 := List.findIdx_lt_length_of_exists (p := p) (xs := xs) (by simpa using h); omega
  · omega
def nzC (E : Tv) (last : Nat) (art : Int) : Int := idxI (fun x => decide (x ≠ 0)) ((E.rows.getD (fIx E.bas art).toNat []).take (last + 1))
def stE2 (E : Tv) (last : Nat) (art : Int) : Tv := if fIx E.bas art < 0 then E else pvt E (fIx E.bas art).toNat (nzC E last art).toNat
def delP (c : Nat) (rows : List (List Int)) (i : Nat) : List (List Int) := (List.range rows.length).map fun k => if k < i then (rows.getD k []).eraseIdx c else rows.getD k []
theorem delP_len (c : Nat) (rows : List (List Int)) (i : Nat) : (delP c rows i).length = rows.length := by simp [delP]
theorem delP_zero (c : Nat) (rows : List (List Int)) : delP c rows 0 = rows := by
  unfold delP; rw [show (fun k => if k < 0 then (rows.getD k []).eraseIdx c else rows.getD k []) = fun k => rows.getD k [] by funext k; rw [if_neg (by omega)]]; exact YY rows []
theorem delP_at (c : Nat) (rows : List (List Int)) (i : Nat) (h : i < rows.length) : (delP c rows i).getD i [] = rows.getD i [] := by
  unfold delP; rw [Zb _ _ _ h, if_neg (by omega)]
theorem delP_set (c : Nat) (rows : List (List Int)) (i : Nat) (h : i < rows.length) : (delP c rows i).set i ((rows.getD i []).eraseIdx c) = delP c rows (i + 1) := by
  unfold delP; refine Y0 _ _ _ i _ h (fun j hj => ?_); by_cases e : j = i
  · subst e; rw [if_pos rfl, if_pos (by omega)]
  · rw [if_neg e]; by_cases h2 : j < i
    · rw [if_pos h2, if_pos (by omega)]
    · rw [if_neg h2, if_neg (by omega)]
def stE3 (E : Tv) (m last : Nat) (art : Int) : Tv :=
  let E2 := stE2 E last art
  { E2 with rows := delP (fIx E2.col art).toNat (E2.rows.take (m + 1)) (m + 1), col := E2.col.eraseIdx (fIx E2.col art).toNat, hl := E2.hl.take (m + 1) }
structure StartRun (T : Tv) (art : Int) (E : Tv) : Prop where
  worst : 0 ≤ wrS T T.bas.length
  gd : Gd (insT T art)
  run : ∃ s k, RunOk (T.bas.length + 1) E s k (pvt (insT T art) (wrS T T.bas.length).toNat T.col.length)
  piv : ¬ E.at (T.bas.length + 1) (T.col.length + 1) < 0 → 0 ≤ fIx E.bas art → 0 ≤ nzC E T.col.length art
  fit2 : ¬ E.at (T.bas.length + 1) (T.col.length + 1) < 0 → Fit (stE2 E T.col.length art)
  out : ¬ E.at (T.bas.length + 1) (T.col.length + 1) < 0 → 0 ≤ fIx (stE2 E T.col.length art).col art
def stRes (T E : Tv) : Bool := decide (wrS T T.bas.length < 0) || !decide (E.at (T.bas.length + 1) (T.col.length + 1) < 0)
def stOut (T E : Tv) (art : Int) : Tv := if wrS T T.bas.length < 0 then T else if E.at (T.bas.length + 1) (T.col.length + 1) < 0 then E else stE3 E T.bas.length T.col.length art
theorem lines_set2 : ∀ (k : Nat) (hl : List Value) (zs : List (List Int)) (i : Nat) (h : Value) (y : List Int), i < hl.length → i < zs.length → ∀ j, bget (linesB k (hl.set i h) (zs.set i y)) j = bget ((i + k, .rowx h 94 2 (whs y)) :: linesB k hl zs) j
  | _, [], _, _, _, _, h1, _, _ => by simp at h1
  | _, _ :: _, [], _, _, _, _, h2, _ => by simp at h2
  | k, a :: hl, z :: zs, 0, h, y, _, _, j => by
    show bget ((k, .rowx h 94 2 (whs y)) :: linesB (k + 1) hl zs) j = _
    by_cases hk : k = j
    · subst hk; rw [Ql, Nat.zero_add, Ql]
    · rw [Q3 _ _ hk, Q3 _ _ (by omega)]
      show _ = bget ((k, _) :: linesB (k + 1) hl zs) j
      rw [Q3 _ _ hk]
  | k, a :: hl, z :: zs, i + 1, h, y, h1, h2, j => by
    have ih := lines_set2 (k + 1) hl zs i h y (by simpa using h1) (by simpa using h2) j
    show bget ((k, .rowx a 94 2 (whs z)) :: linesB (k + 1) (hl.set i h) (zs.set i y)) j = _
    by_cases hk : k = j
    · subst hk
      rw [Ql, Q3 _ _ (by omega)]
      show _ = bget ((k, _) :: linesB (k + 1) hl zs) k
      rw [Ql]
    · rw [Q3 _ _ hk, ih]
      by_cases h3 : i + (k + 1) = j
      · subst h3; rw [Ql, show i + 1 + k = i + (k + 1) by omega, Ql]
      · rw [Q3 _ _ h3, Q3 _ _ (by omega)]
        show _ = bget ((k, _) :: linesB (k + 1) hl zs) j
        rw [Q3 _ _ hk]
theorem bget_bset' {B : BL} {i : Nat} {e0 f : Ent} (h : bget B i = some e0) (j : Nat) : bget (bset B i f) j = if i = j then some f else bget B j := by
  rw [Zh h]; split
  · rename_i h; subst h; rw [Ql]
  · rename_i h; rw [Q3 _ _ h]
theorem upd_B {e0 e1 e1' e2 e3 : Ent} {hl : List Value} {zs : List (List Int)} {i : Nat} {h : Value} {y : List Int} (h1 : i < hl.length) (h2 : i < zs.length) :
    ∀ j, bget ((0, e0) :: (1, e1') :: (2, e2) :: (3, e3) :: linesB 10 (hl.set i h) (zs.set i y)) j = bget (bset ((i + 10, .rowx h 94 2 (whs y)) :: bdel ((0, e0) :: (1, e1) :: (2, e2) :: (3, e3) :: linesB 10 hl zs) (i + 10)) 1 e1') j := fun j => by
  have g1 : bget ((i + 10, .rowx h 94 2 (whs y)) :: bdel ((0, e0) :: (1, e1) :: (2, e2) :: (3, e3) :: linesB 10 hl zs) (i + 10)) 1 = some e1 := by
    rw [Q3 _ _ (by omega), Xg _ (by omega)]; rfl
  rw [bget_bset' g1]; by_cases hj1 : 1 = j
  · subst hj1; rw [if_pos rfl]; rfl
  rw [if_neg hj1]; by_cases hji : i + 10 = j
  · subst hji; rw [Ql]; show bget (linesB 10 (hl.set i h) (zs.set i y)) (i + 10) = _; rw [lines_set2 10 hl zs i h y h1 h2, Ql]
  · rw [Q3 _ _ hji, Xg _ (Ne.symm hji)]
    match j, hj1, hji with
    | 0, _, _ => rfl
    | 1, h, _ => exact absurd J h
    | 2, _, _ => rfl
    | 3, _, _ => rfl
    | j + 4, _, hji =>
      show bget (linesB 10 (hl.set i h) (zs.set i y)) (j + 4) = bget (linesB 10 hl zs) (j + 4); rw [lines_set2 10 hl zs i h y h1 h2, Q3 _ _ hji]
theorem upd_B4 {e4 e0 e1 e1' e2 e3 : Ent} {hl : List Value} {zs : List (List Int)} {i : Nat} {h : Value} {y : List Int} (h1 : i < hl.length) (h2 : i < zs.length) :
    ∀ j, bget ((0, e0) :: (1, e1') :: (2, e2) :: (3, e3) :: linesB 10 (hl.set i h) (zs.set i y)) j = bget (bdel (bset ((i + 10, .rowx h 94 2 (whs y)) :: bdel ((4, e4) :: (0, e0) :: (1, e1) :: (2, e2) :: (3, e3) :: linesB 10 hl zs) (i + 10)) 1 e1') 4) j := fun j => by
  by_cases h4 : j = 4
  · subst h4; rw [Z7]; exact Zl 10 _ _ 4 (by decide)
  rw [Xg _ h4, upd_B (e1 := e1) h1 h2]
  have g1 : ∀ B' : BL, (∀ j, j ≠ 4 → bget B' j = bget ((0, e0) :: (1, e1) :: (2, e2) :: (3, e3) :: linesB 10 hl zs) j) → bget ((i + 10, Ent.rowx h 94 2 (whs y)) :: bdel B' (i + 10)) 1 = some e1 := fun B' hB => by
    rw [Q3 _ _ (by omega), Xg _ (by omega), hB 1 (by decide)]; rfl
  rw [bget_bset' (g1 _ (fun _ _ => rfl)), bget_bset' (g1 ((4, e4) :: (0, e0) :: (1, e1) :: (2, e2) :: (3, e3) :: linesB 10 hl zs) (fun j hj => Q3 _ _ (Ne.symm hj)))]
  split
  · rfl
  · by_cases hji : i + 10 = j
    · subst hji; rw [Ql, Ql]
    · rw [Q3 _ _ hji, Q3 _ _ hji, Xg _ (Ne.symm hji), Xg _ (Ne.symm hji), Q3 _ _ (Ne.symm h4)]
theorem lines_take : ∀ (k q : Nat) (hl : List Value) (zs : List (List Int)) (j : Nat), j < q + k → bget (linesB k (hl.take q) (zs.take q)) j = bget (linesB k hl zs) j
  | k, 0, hl, zs, j, hj => by
    rw [List.take_zero, List.take_zero, Zl k hl zs j (by omega)]; rfl
  | k, q + 1, [], zs, j, hj => by simp [linesB]
  | k, q + 1, _ :: _, [], j, hj => by simp [linesB]
  | k, q + 1, h :: hl, z :: zs, j, hj => by
    show bget ((k, .rowx h 94 2 (whs z)) :: linesB (k + 1) (hl.take q) (zs.take q)) j = bget ((k, .rowx h 94 2 (whs z)) :: linesB (k + 1) hl zs) j
    by_cases hk : k = j
    · subst hk; rw [Ql, Ql]
    · rw [Q3 _ _ hk, Q3 _ _ hk, lines_take (k + 1) q hl zs j (by omega)]
theorem drop_B {e0 e1 e2 e3 : Ent} {hl : List Value} {zs : List (List Int)} {q : Nat} (h1 : hl.length = q + 1) (h2 : zs.length = q + 1) :
    ∀ j, bget ((0, e0) :: (1, e1) :: (2, e2) :: (3, e3) :: linesB 10 (hl.take q) (zs.take q)) j = bget (bdel ((0, e0) :: (1, e1) :: (2, e2) :: (3, e3) :: linesB 10 hl zs) (q + 10)) j := fun j => by
  by_cases hj : j = q + 10
  · subst hj
    rw [Z7]
    show bget (linesB 10 (hl.take q) (zs.take q)) (q + 10) = none
    exact lines_ge (.inl (by rw [List.length_take]; omega))
  · rw [Xg _ hj]
    match j, hj with
    | 0, _ => rfl
    | 1, _ => rfl
    | 2, _ => rfl
    | 3, _ => rfl
    | j + 4, hj =>
      show bget (linesB 10 (hl.take q) (zs.take q)) (j + 4) = bget (linesB 10 hl zs) (j + 4)
      rcases Nat.lt_or_ge (j + 4) (q + 10) with h3 | h3
      · exact lines_take 10 q hl zs (j + 4) (by omega)
      · have e : j + 4 = (j - 6) + 10 := by omega
        rw [e, lines_ge (.inl (by rw [List.length_take]; omega)), lines_ge (.inl (by omega))]
end Go.Proofs.YtdhmbgogmoaofaaGreat
namespace Go.Own
def seqR : Code → Code
  | .seq _ b => b
  | c => c
def bodyOf (f : Func) : Code := match f.body with
  | some c => c
  | none => .skip
end Go.Own
namespace Go.Proofs.YtdhmbgogmoaofaaGreat
open Go.Own Go.Limbs
attribute [local irreducible] St Ops Go.Own.Fin Ok OkM
theorem gostart : InGo Tryz.prog 69 := InGo.of Tryz.func69 (by kernel_rfl) (by kernel_rfl)
theorem ints_flat (xs : List Int) : (xs.map fun x => [intC x]).flatten = ints xs := by
  induction xs with
  | nil => rfl
  | cons x xs ih =>
    have e : ints (x :: xs) = intC x :: ints xs := rfl; rw [e, ← ih]; rfl
theorem getD_take' {α : Type} {l : List α} {i q : Nat} {d : α} (h : i < q) : (l.take q).getD i d = l.getD i d := by
  simp [List.getD_eq_getElem?_getD, List.getElem?_take, h]
theorem fIx_bd (xs : List Int) (v : Int) : -1 ≤ fIx xs v ∧ fIx xs v < xs.length := idxI_bd _ _
theorem nzC_bd {E : Tv} {last : Nat} {art : Int} : -1 ≤ nzC E last art ∧ nzC E last art < (last + 1 : Nat) := by
  have := idxI_bd (fun x => decide (x ≠ 0)) ((E.rows.getD (fIx E.bas art).toNat []).take (last + 1)); unfold nzC; rw [List.length_take] at this; omega
theorem stE2_lens (E : Tv) (last : Nat) (art : Int) : (stE2 E last art).rows.length = E.rows.length ∧ (stE2 E last art).bas.length = E.bas.length ∧ (stE2 E last art).col.length = E.col.length := by
  unfold stE2; split
  · exact ⟨rfl, rfl, rfl⟩
  · exact ⟨Zq _ _ _, pvt_bas _ _ _, Ze _ _ _⟩
theorem set3_B {e0 e1 e2 e3 e3' : Ent} {Lr : BL} : ∀ j, bget ((0, e0) :: (1, e1) :: (2, e2) :: (3, e3') :: Lr) j = bget ((3, e3') :: bdel ((0, e0) :: (1, e1) :: (2, e2) :: (3, e3) :: Lr) 3) j := fun j => by
  by_cases h3 : 3 = j
  · subst h3; rw [Ql]; rfl
  · rw [Q3 _ _ h3, Xg _ (Ne.symm h3)]
    match j, h3 with
    | 0, _ => rfl
    | 1, _ => rfl
    | 2, _ => rfl
    | 3, h => exact absurd rfl h
    | j + 4, _ => rfl
set_option maxHeartbeats 64000000 in
theorem start_tail (T E E2 : Tv) (art : Int) (g1 c1 g3 c3 : Nat) (hlx : List Value) (S : BSet) (w : World) (ρ0 : Nat → Value) (hbor : ∀ gb, (lentM Tryz.prog 220 S w (tabB T) [0] ρ0).bor gb → S gb)
    (hout : stOut T E art = stE3 E T.bas.length T.col.length art) (hres : stRes T E = true) (hE3d : stE3 E T.bas.length T.col.length art = { E2 with rows := delP (fIx E2.col art).toNat (E2.rows.take (T.bas.length + 1)) (T.bas.length + 1), col := E2.col.eraseIdx (fIx E2.col art).toNat, hl := E2.hl.take (T.bas.length + 1) })
    (hRo : 0 ≤ fIx E2.col art) (hr2 : ∀ i, i < T.bas.length + 2 → (E2.rows.getD i []).length = T.col.length + 2) (hn2 : E2.rows.length = T.bas.length + 2) (hc2 : E2.col.length = T.col.length + 1)
    (hhx : hlx.length = T.bas.length + 2) (hlen : T.hl.length = T.bas.length + 1) (hc1 : T.hl.length + 1 ≤ c1) (hc3 : T.col.length + 1 ≤ c3) (hw1 : T.bas.length ≤ 90) (hw2 : T.col.length ≤ 90) :
    St (lentM Tryz.prog 220 S w (tabB T) [0] ρ0) [(0, .own 0), (1, .ct (intC art)), (5, .ct (intC T.bas.length)), (6, .ct (intC T.col.length))]
      ((0, .box 98 [.ex (kh g1 0 (T.hl.length + 1) c1), .ex T.hB, .ex (kh g3 0 (T.col.length + 1) c3), boolC (decide (E2.den < 0)), natC E2.den.natAbs]) :: (1, .rowx (kh g1 0 (T.hl.length + 1) c1) 95 1 (hlx.map CT.ex)) :: (2, .rowx T.hB 3 1 (ints E2.bas)) :: (3, .rowx (kh g3 0 (T.col.length + 1) c3) 3 1 (ints E2.col)) :: linesB 10 hlx E2.rows)
      (seqR (seqR (seqR (seqR (seqR (seqR (seqR (seqR (seqR (seqR (seqR (seqR (seqR (bodyOf Tryz.f69))))))))))))))
      (bodyPost Tryz.prog Tryz.f69 (postM S w ρ0 (tabB T) [0] (fun H : Tv => H.hl.length = (stOut T E art).rows.length) (fun _ => .ct (boolC (stRes T E))) (fun H => tabB ((stOut T E art).wh H)))) := by
  have bC := fIx_bd E2.col art; have hIc : Ok Tryz.prog 128 [intsC E2.col, intC art] (intC (fIx E2.col art)) := Index_ints E2.col art (by omega); obtain ⟨cx, hcx⟩ : ∃ cx : Nat, fIx E2.col art = cx := ⟨(fIx E2.col art).toNat, by omega⟩; rw [hcx] at hIc bC; rw [hcx, Int.toNat_natCast] at hE3d; refine Qy (Qx fun K hK => ?_); refine Qq J J J (Q5 J J J J (QV J J J fT2 J (QJ J J J J J lInts J (Qq J J J (Ops.callRO 3 goIndex_ints hIc J J (fun a ρ w hI => ?_) J J ?_)))))
  · have h1 := hI.readX (i := 3) (el := 3) (n := 1) (v := kh g3 0 (T.col.length + 1) c3) (es := E2.col.map fun x => [intC x]) (by rw [ints_flat]; rfl) (by simp) (by decide) hbor; have h2 : a.eval (.tmp 174) = kh g3 0 (T.col.length + 1) c3 := hI.evx J; exact ⟨by rw [h2]; exact h1, hI.evx J, trivial⟩
  refine Qv J J J (Qj (hK _ _ (Qz (Qy ?_)))); clear hK K; refine Qx (fun K hK => ?_); refine Qq J J J (Qq J J J (Q5 J J J J (QV J J J fT0 J (QJ J J J J J lMat J (Qq J J J (Qw (iadd (by omega) (by omega)) J J J J ?_))))))
  refine Ops.cutKh (T.bas.length + 1) J J J (by omega) sMat (by omega) J ?_
  refine Ops.shrink 1 (T.bas.length + 1) J (by simp [hhx, hlen]) (by decide) (by omega) ?_
  refine Q5 J J J J (QV J J J fT0 J (Qn J J J J J zMat (Nat.le_of_ble_eq_true J) (Qj (hK _ _ (Qz (Qy ?_)))))); clear hK K; refine Qx (fun K hK => ?_); refine Qq J J J (Qq J J J (Q5 J J J J (QV J J J fT2 J (QJ J J J J J lInts J (Qq J J J (Qq J J J (Qw (iadd (by omega) (by omega)) J J J J ?_))))))); have hdc := (Delete_ints g3 (T.col.length + 1) c3 E2.col cx (by omega) (by omega) hc3 (by omega)).nm 3 (fun _ _ => .inl ⟨_, rfl⟩); refine Ops.call1 3 goDelete_ints hdc J J J hbor J (fun p hp => ?_) (fun q j hq => ?_) (fun _ _ => ?_)
  · obtain ⟨k, hk, rfl⟩ := List.mem_map.1 hp
    obtain rfl : k = 0 := by simpa using hk
    exact ⟨by simp, rfl⟩
  · rcases hq with hq | ⟨o, hq⟩ <;> simp [Sl.ren] at hq
  refine Ops.keep [(0, .own 0), (5, .ct (intC T.bas.length)), (16, .ct (intC cx)), (187, .own 0), (195, .ct (.ex (kh g3 0 (T.col.length + 1 - 1) c3)))] ⟨rfl, rfl, rfl, rfl, rfl, trivial⟩ ?_
  have htk : (hlx.map CT.ex).take ((T.bas.length + 1) * 1) = (hlx.take (T.bas.length + 1)).map CT.ex := by rw [Nat.mul_one, List.map_take]
  refine Ops.reB (B' := (0, .box 98 [.ex (kh g1 0 (T.bas.length + 1) c1), .ex T.hB, .ex (kh g3 0 (T.col.length + 1) c3), boolC (decide (E2.den < 0)), natC E2.den.natAbs]) :: (1, .rowx (kh g1 0 (T.bas.length + 1) c1) 95 1 ((hlx.take (T.bas.length + 1)).map CT.ex)) :: (2, .rowx T.hB 3 1 (ints E2.bas)) :: (3, .rowx (kh g3 0 (T.col.length + 1 - 1) c3) 3 1 (ints (E2.col.eraseIdx cx))) :: linesB 10 hlx E2.rows) (fun j => by rw [← htk]; exact set3_B j) ?_
  refine Q5 J J J J (QV J J J fT2 J (Qn J J J J J Yu (Nat.le_of_ble_eq_true J) (Qj (hK _ _ (Qz (Qy (Qy ?_))))))); clear hK K; refine Qx (fun K hK => ?_); refine Qq J J J (Q5 J J J J (QV J J J fT0 J (QJ J J J J J lMat J (ZK 1 (T.bas.length + 1) J J J (by decide) (by simp [hhx]) sMat.und J ?_)))); refine Qq J J J (Qj (hK _ _ (Qz (Q0 ?_)))); clear hK K
  have hyt : (hlx.take (T.bas.length + 1)).length = T.bas.length + 1 := by rw [List.length_take]; omega
  have hrt : (E2.rows.take (T.bas.length + 1)).length = T.bas.length + 1 := by rw [List.length_take]; omega
  refine Xq (α := Nat × List Value) (fun x => x.1 ≤ T.bas.length + 1 ∧ x.2.length = T.bas.length + 1)
    (fun x => [(0, .own 0), (5, .ct (intC T.bas.length)), (16, .ct (intC cx)), (201, .ct (.ex (kh g1 0 (T.bas.length + 1) c1))), (202, .ct (intC ((T.bas.length + 1 : Nat) : Int))), (203, .ct (intC x.1))])
    (fun x => (0, .box 98 [.ex (kh g1 0 (T.bas.length + 1) c1), .ex T.hB, .ex (kh g3 0 T.col.length c3), boolC (decide (E2.den < 0)), natC E2.den.natAbs]) :: (1, .rowx (kh g1 0 (T.bas.length + 1) c1) 95 1 (x.2.map CT.ex)) :: (2, .rowx T.hB 3 1 (ints E2.bas)) :: (3, .rowx (kh g3 0 T.col.length c3) 3 1 (ints (E2.col.eraseIdx cx))) :: linesB 10 x.2 (delP cx (E2.rows.take (T.bas.length + 1)) x.1))
    (fun x => T.bas.length + 1 - x.1) (0, hlx.take (T.bas.length + 1)) ⟨Nat.zero_le _, hyt⟩ (by exact Yx (T.bas.length + 1 + 10) (Yo (by dsimp only; rw [delP_zero]; exact drop_B (by omega) (by omega)) ⟨rfl, rfl, rfl, rfl, rfl, rfl, trivial⟩)) ?_
  rintro ⟨i, hly⟩ ⟨hi, hhy⟩
  dsimp only at hi hhy ⊢; have hdl2 := delP_len cx (E2.rows.take (T.bas.length + 1)) i; rw [hrt] at hdl2; refine Qy (Qx fun K hK => ?_); refine Qw ilss J J J J (Qj (hK _ _ (Qz (Qy ?_)))); clear hK K; refine QK J (fun h7 => ?_) (fun h7 => ?_)
  · have ki : (i : Int).toNat * 1 = i := by omega
    have hi2 : i < T.bas.length + 1 := by omega
    have hat := delP_at cx (E2.rows.take (T.bas.length + 1)) i (by omega); have hset := delP_set cx (E2.rows.take (T.bas.length + 1)) i (by omega); rw [getD_take' hi2] at hat hset; have hln := hr2 i (by omega); generalize hline : E2.rows.getD i [] = line at *; have hlg := XK (k := 10) (hl := hly) (zs := delP cx (E2.rows.take (T.bas.length + 1)) i) (i := i) (by omega) (by omega); rw [hat] at hlg; generalize hcur : delP cx (E2.rows.take (T.bas.length + 1)) i = cur at *; refine QU (Qz (Qy (Q0 (Qy (Qx fun K hK => ?_))))); refine Qq J J J (Qo 1 (T.bas.length + 1) J J J (by simp [hhy]) J sMat (by omega) (by omega) J ?_); rw [ki]
    refine QJ J J J J (Yk (by omega)) lWhs J ?_
    refine Ops.hand (i + 10) (T.col.length + 2) (by exact hlg) (by rw [X9, hln]) (by omega) (by decide) (fun gb cc hh hcc hccm => ?_); rw [hh] at hlg; rw [hh]; refine Qv J J J (Qv J J J (Qj (hK _ _ (Qz ?_)))); clear hK K; have hdl := (Delete_whs gb (T.col.length + 2) cc line cx (by omega) (by omega) hcc (by omega)).nm (i + 10) (fun _ _ => .inl ⟨_, rfl⟩); refine St.drawQ mixed [9, 11] (.p 0 (.p 1 (.p 2 (.p 4 (.p 5 (.p 6 (.p 7 (.p 8 (.m 3 (.a 9 (.p 10 (.a 11 .done .non)) .non) (.a 9 (.m 3 (.p 10 (.a 11 .done .non)) .non) .non)))))))))) (by kernel_rfl) (fun K hK => ?_)
    refine (fun (cont : Go.Own.Fin _ [(0, .own 0), (5, .ct (intC T.bas.length)), (16, .ct (intC cx)), (201, .ct (.ex (kh g1 0 (T.bas.length + 1) c1))), (202, .ct (intC ((T.bas.length + 1 : Nat) : Int))), (203, .ct (intC i)), (17, .ct (intC i))]
      (bset ((i + 10, .rowx (kh gb 0 (T.col.length + 2 - 1) cc) 94 2 (whs (line.eraseIdx cx))) :: bdel ((0, .box 98 [.ex (kh g1 0 (T.bas.length + 1) c1), .ex T.hB, .ex (kh g3 0 T.col.length c3), boolC (decide (E2.den < 0)), natC E2.den.natAbs]) :: (1, .rowx (kh g1 0 (T.bas.length + 1) c1) 95 1 (hly.map CT.ex)) :: (2, .rowx T.hB 3 1 (ints E2.bas)) :: (3, .rowx (kh g3 0 T.col.length c3) 3 1 (ints (E2.col.eraseIdx cx))) :: linesB 10 hly cur) (i + 10)) 1 (.rowx (kh g1 0 (T.bas.length + 1) c1) 95 1 ((hly.map CT.ex).set i (.ex (kh gb 0 (T.col.length + 2 - 1) cc))))) K) => ?_) (hK _ _ ?_)
    rotate_left
    · clear hK K; refine Qz (Qx fun K hK => ?_)
      refine Qw (iadd (by omega) (by omega)) J J J J ?_
      refine Qq J J J (Qj (hK _ _ (Q4 ?_))); clear hK K
      refine Qb (i + 1, hly.set i (kh gb 0 (T.col.length + 2 - 1) cc)) (by dsimp only; omega) ⟨by dsimp only; omega, by dsimp only; rw [List.length_set]; exact hhy⟩ (by exact (Yo (by
        dsimp only
        rw [← hset, List.map_set]; exact upd_B (by omega) (by omega)) ⟨rfl, rfl, rfl, rfl, rfl, by simp only [Int.natCast_add]; rfl, trivial⟩))
    clear hK; refine Qm (Qq J J J (Qj ?_)); refine Qm (Q5 J J J J (Qj ?_)); refine Qm (QV J J J fT0 J (Qj ?_)); refine Qm (Qq J J J (Qj ?_)); refine Qm (Qq J J J (Qj ?_)); refine Qm (Qq J J J (Qj ?_)); refine Qm (Qq J J J (Qj ?_)); refine Qm (Qw (iadd (by omega) (by omega)) J J J J (Qj ?_))
    refine X5 ?_ ?_
    · refine QJ J J J J J lMat J (Qj ?_)
      refine Xx ?_ Q8
      refine Ops.call1 (i + 10) goDelete_whs hdl J J J hbor (by exact hlg) (fun p hp => ?_) (fun q j hq => ?_) (fun _ _ => ?_); rotate_left; rotate_left
      · refine Qj (Qm (Qo 1 (T.bas.length + 1) J J J (by simp [hhy]) J sMat (by omega) (by omega) J ?_)); rw [ki]; refine Qj (Xx (Qn J J J J J zWhs (by simp [Ent.cs, hhy]; omega) (Qj ?_)) Q8); exact X4 (Zv cont ⟨rfl, rfl, rfl, rfl, rfl, rfl, rfl, trivial⟩)
      · obtain ⟨k, hk, rfl⟩ := List.mem_map.1 hp
        obtain rfl : k = 0 := by simpa using hk
        exact ⟨by simp, rfl⟩
      · rcases hq with hq | ⟨o, hq⟩ <;> simp [Sl.ren] at hq
    · refine Xx ?_ Q8
      refine Ops.call1 (i + 10) goDelete_whs hdl J J J hbor (by exact hlg) (fun p hp => ?_) (fun q j hq => ?_) (fun _ _ => ?_); rotate_left; rotate_left
      · refine Qj (X5 ?_ Q8); refine QJ J J J J J lMat J (Qj ?_); refine Qm (Qo 1 (T.bas.length + 1) J J J (by simp [hhy]) J sMat (by omega) (by omega) J ?_); rw [ki]; refine Qj (Xx (Qn J J J J J zWhs (by simp [Ent.cs, hhy]; omega) (Qj ?_)) Q8); exact X4 (Zv cont ⟨rfl, rfl, rfl, rfl, rfl, rfl, rfl, trivial⟩)
      · obtain ⟨k, hk, rfl⟩ := List.mem_map.1 hp
        obtain rfl : k = 0 := by simpa using hk
        exact ⟨by simp, rfl⟩
      · rcases hq with hq | ⟨o, hq⟩ <;> simp [Sl.ren] at hq
  have hi' : i = T.bas.length + 1 := by omega
  subst hi'; refine Qr (Qz (Qy (Qx fun K hK => ?_))); refine Qv J J J (Qj (hK _ _ (Qz (Q2 ?_)))); clear hK K; refine Y3 ⟨kh g1 0 (T.bas.length + 1) c1, T.hB, kh g3 0 T.col.length c3, hly, [], [], [], 0⟩ [_] rfl (QZ J QX) (by rw [hres]; rfl) (fun j => by rw [hout, hE3d]; rfl) (by rw [hout, hE3d]; show hly.length = _; rw [hhy]; show _ = (delP cx _ _).length; rw [delP_len, hrt])
end Go.Proofs.YtdhmbgogmoaofaaGreat
namespace Go.Proofs.YtdhmbgogmoaofaaGreat
open Go.Own Go.Limbs
attribute [local irreducible] St Ops Go.Own.Fin Ok OkM
set_option maxHeartbeats 64000000 in
theorem start_ok (T E : Tv) (art : Int) (ha1 : -1152921504606846976 ≤ art) (ha2 : art ≤ 1152921504606846976) (hF : Fit T) (hm : T.rows.length = T.bas.length + 1) (hS : Shrt T) (hfull : ∀ h ∈ T.hl, ∃ gb, h = kh gb 0 (T.col.length + 1) (T.col.length + 1)) (hrun : 0 ≤ wrS T T.bas.length → StartRun T art E) (hw1 : T.rows.length ≤ 90) (hw2 : T.col.length ≤ 90) :
    OkM Tryz.prog 69 [.own 0, .ct (intC art)] (tabB T) [0] (fun H : Tv => H.hl.length = (stOut T E art).rows.length) (fun _ => .ct (boolC (stRes T E))) (fun H => tabB ((stOut T E art).wh H)) := by
  have hhl := hF.hl; have hof0 := of_ok 0 (by decide) (by decide); have hof1 := of_ok 1 (by decide) (by decide); have hofm := of_ok (-1) (by decide) (by decide)
  have kl2 : (T.col.length : Int).toNat * 2 = T.col.length * 2 := by omega
  refine OkM.enter Tryz.func69 J _ Tryz.ntmps69 J (tab_fx T) ?_
  intro S w ρ0 hbor
  have hfix : ∀ p ∈ (lentM Tryz.prog 220 S w (tabB T) [0] ρ0).fix, (bget [] p.1).isSome = true ∨ p.1 ∈ [0] := fun p hp => by
    obtain ⟨i, hi, rfl⟩ := List.mem_map.1 hp; exact .inr hi
  simp only [tabB]; refine Qy (Qx fun K hK => ?_); refine Qv J J J (Qj (hK _ _ (Qz (Qy ?_)))); clear hK K; refine Xv mixed 12 (.p 0 (.p 1 (.p 2 (.p 5 (.p 6 (.p 7 (.f 3 (.p 4 (.p 10 (.f 8 (.p 9 (.p 11 .done)))))))))))) (by kernel_rfl) (fun K hK => ?_); refine Qq J J J (Q5 J J J J (QV J J J fT1 J (Qq J J J (Q5 J J J J (QV J J J fT2 J (QJ J J J J J lInts J (ZK 2 T.bas.length J J J (by decide) (by simp) sInts.und J ?_))))))); refine Qv J J J (QJ J J J J J lInts J (ZK 3 T.col.length J J J (by decide) (by simp) sInts.und J ?_)); refine Qv J J J (Qj (hK _ _ (Qz (Qy ?_)))); clear hK K; refine Qx (fun K hK => ?_); refine Qv J J J (Qj (hK _ _ (Qz (Qy (Qy ?_))))); clear hK K; refine Qx (fun K hK => ?_); refine Qq J J J (Qq J J J (Qj (hK _ _ (Qz (Q0 ?_))))); clear hK K
  refine Xq (α := Nat) (fun i => i ≤ T.bas.length)
    (fun i => [(0, .own 0), (1, .ct (intC art)), (5, .ct (intC T.bas.length)), (6, .ct (intC T.col.length)), (7, .ct (intC (wrS T i))), (29, .ct (intC T.bas.length)), (30, .ct (intC i))])
    (fun _ => tabB T) (fun i => T.bas.length - i) 0 (Nat.zero_le _) (by exact Qu J ⟨rfl, rfl, rfl, rfl, rfl, rfl, rfl, trivial⟩) ?_
  intro i hi; dsimp only at hi ⊢; have wb := wrS_bd T i
  have ws : wrS T (i + 1) = if T.at i T.col.length < 0 ∧ (wrS T i < 0 ∨ T.at i T.col.length + -(T.at (wrS T i).toNat T.col.length) < 0) then (i : Int) else wrS T i := rfl
  generalize hwr : wrS T i = wr at *; simp only [tabB]; refine Qy (Qx fun K hK => ?_); refine Qw ilss J J J J (Qj (hK _ _ (Qz (Qy ?_)))); clear hK K; refine QK J (fun h => ?_) (fun h => ?_)
  · have hi2 : i < T.rows.length := by omega
    have hrow := hF.row i hi2
    have ki : (i : Int).toNat * 1 = i := by omega
    have sb := hS i T.col.length; refine QU (Qz (Qy (Q0 (Qy (Qx fun K hK => ?_))))); refine Qq J J J (Qv J J J (Qj (hK _ _ (Qz (Qy ?_))))); clear hK K; refine Qx (fun K hK => ?_); refine Qq J J J (Q5 J J J J (QV J J J fT0 J (QJ J J J J J lMat J (Qq J J J (Qo 1 T.rows.length J J J (by simp [hhl]) J sMat (by omega) (by omega) J ?_))))); rw [ki]
    refine QJ J J J J (Yk (by omega)) lWhs J ?_
    refine Qq J J J (Qo (i + 10) (T.col.length + 1) J J (XK (by omega) hi2) (by rw [X9, hrow]) J sWhs (by omega) (by omega) J ?_); rw [kl2]
    refine ldWh J J J (XK (by omega) hi2) J (by omega) lWh J ?_
    generalize hb : T.at i T.col.length = b at *; rw [show (T.rows.getD i []).getD T.col.length 0 = b from hb]
    refine Qf 4 J J zvWh J (by exact Zl 10 _ _ 4 (by decide)) J ?_
    refine Qa 2 J J J J J szWh J J (Qj (hK _ _ (Qz (Qy ?_)))); clear hK K; refine Xv mixed 24 (.f 0 (.m 1 (.p 2 (.p 3 (.p 4 (.p 5 (.p 6 (.p 8 (.p 9 (.p 10 (.p 12 (.p 15 (.f 7 (.f 11 (.p 13 (.f 14 (.p 16 (.f 17 (.m 18 (.m 19 (.m 20 (.p 21 (.p 22 (.p 23 .done)))))))))))))))))))))))) (by kernel_rfl) (fun K hK => ?_); refine (fun (cont : ∀ c : Bool, (c = true ↔ (b < 0 ∧ (wr < 0 ∨ b + -(T.at wr.toNat T.col.length) < 0))) → Go.Own.Fin _ [(66, .ct (boolC c)), (0, .own 0), (1, .ct (intC art)), (5, .ct (intC T.bas.length)), (6, .ct (intC T.col.length)), (7, .ct (intC wr)), (8, .ct (intC i)), (29, .ct (intC T.bas.length)), (30, .ct (intC i))] ((4, .box 94 (whCs b)) :: tabB T) K) => ?_) (fun c hc => hK _ _ ?_); rotate_left
    · clear hK K; simp only [tabB]; refine Qz (Za J (fun h2 => ?_) (fun h2 => ?_))
      · have hP := hc.1 h2; refine Qx (fun K hK => ?_); refine Qq J J J (Qv J J J (Qj (hK _ _ (Qz ?_)))); clear hK K; refine Qx (fun K hK => ?_)
        refine Qw (iadd (by omega) (by omega)) J J J J ?_
        refine Qq J J J (Qj (hK _ _ (Q4 ?_))); clear hK K; refine Qb (i + 1) (by omega) (by omega) (by exact Yx 4 (Qu (by exact del4) ⟨rfl, rfl, rfl, rfl, by rw [ws, if_pos hP]; rfl, rfl, by simp only [Int.natCast_add]; rfl, trivial⟩))
      · have hP : ¬ (b < 0 ∧ (wr < 0 ∨ b + -(T.at wr.toNat T.col.length) < 0)) := fun hp => by have := hc.2 hp; rw [h2] at this; cases this
        refine QU (Qz (Qx fun K hK => ?_))
        refine Qw (iadd (by omega) (by omega)) J J J J ?_
        refine Qq J J J (Qj (hK _ _ (Q4 ?_))); clear hK K; refine Qb (i + 1) (by omega) (by omega) (by exact Yx 4 (Qu (by exact del4) ⟨rfl, rfl, rfl, rfl, by rw [ws, if_neg hP]; rfl, rfl, by simp only [Int.natCast_add]; rfl, trivial⟩))
    clear hK; refine Qt (n := 2) J J J J J lWh J (QQ gosign (Yi b) J J J J (Qw ilss J J J J (Qq J J J (Qp 46 J (fun h1 => ?_) (fun h1 => ?_)))))
    · have hb0 : b < 0 := sgn_lt.1 h1; refine Qq J J J (Qw ilss J J J J (Qq J J J (Qp 49 J (fun h2 => ?_) (fun h2 => ?_))))
      · refine Qk J J J (Qk J J J (Qk J J J (Qk J J J (Qk J J J (Qk J J J (Qk J J J (Qk J J J (Qk J J J (Qk J J J (Qk J J J (Qk J J J (Qk J J J (Qk J J J (Qk J J J (Qc J J J J (Qc J J J J ?_)))))))))))))))); exact Qj (Zv (cont true ⟨fun _ => ⟨hb0, .inl h2⟩, fun _ => rfl⟩) ⟨rfl, rfl, rfl, rfl, rfl, rfl, rfl, rfl, rfl, trivial⟩)
      · obtain ⟨q, rfl⟩ : ∃ q : Nat, wr = q := ⟨wr.toNat, by omega⟩
        have hq2 : q < T.rows.length := by omega
        have hrowq := hF.row q hq2
        have kq : (q : Int).toNat * 1 = q := by omega
        have sq := hS q T.col.length; rw [Int.toNat_natCast] at cont; generalize hb2 : T.at q T.col.length = b2 at *; refine Qq J J J (Q5 J J J J (QV J J J fT0 J (Qq J J J (Qq J J J (Qt (n := 2) J J J J J lWh J (QJ J J J J J lMat J (Qo 1 T.rows.length J J J (by simp [hhl]) J sMat (by omega) (by omega) J ?_))))))); rw [kq]
        refine QJ J J J J (Yk (by omega)) lWhs J ?_
        skip
        refine Qo (q + 10) (T.col.length + 1) J J (XK (by omega) hq2) (by rw [X9, hrowq]) J sWhs (by omega) (by omega) J ?_
        rw [kl2]
        refine ldWh J J J (XK (by omega) hq2) J (by omega) lWh J ?_
        rw [show (T.rows.getD q []).getD T.col.length 0 = b2 from hb2]; refine QQ gominus (minus_ok b2) J J J J (QQ goplus (plus_ok b (-b2) (by omega) (Nat.le_trans (neg_short sq) (by decide))) J J J J ?_); refine QQ gosign (Yi _) J J J J (Qw ilss J J J J (Q6 J J J J (Qc J J J J (Qj (Zv (cont (decide ((b + -b2).sign < 0)) ⟨fun hd => ⟨hb0, .inr (sgn_lt.1 (of_decide_eq_true hd))⟩, fun hd => decide_eq_true (sgn_lt.2 (hd.2.resolve_left h2))⟩) ⟨rfl, rfl, rfl, rfl, rfl, rfl, rfl, rfl, rfl, trivial⟩)))))
    · refine Qk J J J (Qk J J J (Qk J J J (Qk J J J (Qk J J J (Qk J J J (Qk J J J (Qk J J J (Qk J J J (Qk J J J (Qk J J J (Qk J J J (Qk J J J (Qk J J J (Qk J J J (Qk J J J (Qk J J J (Qk J J J (Qk J J J (Q6 J J J J ?_))))))))))))))))))); exact Qj (Zv (cont false ⟨fun hd => by (cases hd), fun hd => absurd (sgn_lt.2 hd.1) h1⟩) ⟨rfl, rfl, rfl, rfl, rfl, rfl, rfl, rfl, rfl, trivial⟩)
  have hi' : i = T.bas.length := by omega
  subst hi'; simp only [tabB]; refine Qr (Qz (Qy (Qy (Qx fun K hK => ?_)))); refine Qq J J J (Qw ilss J J J J (Qj (hK _ _ (Qz ?_)))); clear hK K; refine QK J (fun h2 => ?_) (fun h2 => ?_)
  · have e1 : stOut T E art = T := by unfold stOut; rw [hwr, if_pos h2]
    have e2 : stRes T E = true := by unfold stRes; rw [hwr, decide_eq_true h2]; rfl
    refine Qy (Qx fun K hK => ?_); refine Qv J J J (Qj (hK _ _ (Qz (Q2 (QW ?_))))); clear hK K; refine Y3 T [_] rfl (QZ J QX) (by rw [e2]; rfl) (fun j => by rw [e1]; rfl) (by rw [e1]; exact hhl)
  obtain ⟨w0, rfl⟩ : ∃ q : Nat, wr = q := ⟨wr.toNat, by omega⟩; have R := hrun (by omega); have hG1 := R.gd; obtain ⟨sE, kE, hE⟩ := R.run; rw [hwr, Int.toNat_natCast] at hE
  have hrl2 : (T.rows ++ [List.replicate (T.col.length + 1) (0 : Int)]).length = T.rows.length + 1 := by simp
  refine QU (Qz (Qy (Qx fun K hK => ?_))); refine Qq J J J (Qw (iadd (by omega) (by omega)) J J J J ?_); refine Ops.makeX (T.hl.length + 10) (T.col.length + 1) J J J (by omega) sWhs (by omega) (by omega) J (by exact lines_ge (.inl (Nat.le_refl _))) J (fun gbz => ?_)
  refine Ops.weakX (T.hl.length + 10) (whs (List.replicate (T.col.length + 1) 0)) (Ql ..) (whs_zero (T.col.length + 1)) ?_
  rw [Zg]; refine Qv J J J (Qj (hK _ _ (Qz (Qy ?_)))); clear hK K; refine Qx (fun K hK => ?_); refine Qq J J J (Qq J J J (Q5 J J J J (QV J J J fT0 J (QJ J J J J J lMat J (Qq J J J (XQ J J sMat J J J (XJ 78 1 J J (Qi T.hl.length ((T.hl ++ [kh gbz 0 (T.col.length + 1) (T.col.length + 1)]).map CT.ex) J J J J sMat (by simp) J (by omega) (by omega) (by simp) J ?_)))))))); refine Xw 81 1 (T.hl.length + 1) J J (by simp) (by omega) (by decide) (fun g1 c1 hc1 hc1m => ?_); refine Q5 J J J J (QV J J J fT0 J (Qn J J J J J zMat (Nat.le_of_ble_eq_true J) (Qj (hK _ _ (Qz (Qy (Qy ?_))))))); clear hK K; refine Qx (fun K hK => ?_); refine Qq J J J (Q5 J J J J (QV J J J fT0 J (QJ J J J J J lMat J ?_)))
  have hfull2 : ∀ k, k < (T.hl ++ [kh gbz 0 (T.col.length + 1) (T.col.length + 1)]).length → ∃ gb, (T.hl ++ [kh gbz 0 (T.col.length + 1) (T.col.length + 1)]).getD k default = kh gb 0 (T.col.length + 1) (T.col.length + 1) := fun k hk => by
    have hmem := X1 (z := default) hk; rcases List.mem_append.1 hmem with h3 | h3
    · exact hfull _ h3
    · exact ⟨gbz, by simpa using h3⟩
  refine ZK 1 (T.hl.length + 1) J J J (by decide) (by simp) sMat.und J ?_
  refine Qq J J J (Qj (hK _ _ (Qz (Q0 ?_)))); clear hK K
  refine Xq (α := Nat × List Value) (fun x => x.1 ≤ T.hl.length + 1 ∧ x.2.length = T.hl.length + 1 ∧ ∀ k, x.1 ≤ k → k < x.2.length → ∃ gb, x.2.getD k default = kh gb 0 (T.col.length + 1) (T.col.length + 1))
    (fun x => [(0, .own 0), (1, .ct (intC art)), (5, .ct (intC T.bas.length)), (6, .ct (intC T.col.length)), (7, .ct (intC w0)), (87, .ct (.ex (kh g1 0 (T.hl.length + 1) c1))), (88, .ct (intC ((T.hl.length + 1 : Nat) : Int))), (89, .ct (intC x.1))])
    (fun x => (0, .box 98 [.ex (kh g1 0 (T.hl.length + 1) c1), .ex T.hB, .ex T.hC, boolC (decide (T.den < 0)), natC T.den.natAbs]) :: (1, .rowx (kh g1 0 (T.hl.length + 1) c1) 95 1 (x.2.map CT.ex)) :: (2, .rowx T.hB 3 1 (ints T.bas)) :: (3, .rowx T.hC 3 1 (ints T.col)) :: linesB 10 x.2 (insP T.bas.length T.col.length (T.rows ++ [List.replicate (T.col.length + 1) 0]) x.1))
    (fun x => T.hl.length + 1 - x.1) (0, T.hl ++ [kh gbz 0 (T.col.length + 1) (T.col.length + 1)]) ⟨Nat.zero_le _, by simp, fun k _ hk => hfull2 k hk⟩ (by exact Yo (by dsimp only; rw [insP_zero]; exact step_B2 hhl) ⟨rfl, rfl, rfl, rfl, rfl, rfl, rfl, rfl, trivial⟩) ?_
  rintro ⟨i, hlx⟩ ⟨hi, hhx, hfx⟩
  dsimp only at hi hhx hfx ⊢; have hil := insP_len T.bas.length T.col.length (T.rows ++ [List.replicate (T.col.length + 1) 0]) i; refine Qy (Qx fun K hK => ?_); refine Qw ilss J J J J (Qj (hK _ _ (Qz (Qy ?_)))); clear hK K; refine QK J (fun h3 => ?_) (fun h3 => ?_)
  · have hi2 : i < (T.rows ++ [List.replicate (T.col.length + 1) (0 : Int)]).length := by omega
    have ki : (i : Int).toNat * 1 = i := by omega
    obtain ⟨gbi, hgi⟩ := hfx i (Nat.le_refl _) (by omega); have hat := insP_at T.bas.length T.col.length (T.rows ++ [List.replicate (T.col.length + 1) 0]) i hi2; have hset := insP_set T.bas.length T.col.length (T.rows ++ [List.replicate (T.col.length + 1) 0]) i hi2
    have hln : ((T.rows ++ [List.replicate (T.col.length + 1) (0 : Int)]).getD i []).length = T.col.length + 1 := by
      rcases Nat.lt_or_ge i T.rows.length with h4 | h4
      · rw [List.getD_eq_getElem?_getD, List.getElem?_append_left h4, ← List.getD_eq_getElem?_getD]; exact hF.row i h4
      · have : i = T.rows.length := by omega
        subst this; simp [List.getD_eq_getElem?_getD]
    have hsetl : insL T.bas.length T.col.length i ((T.rows ++ [List.replicate (T.col.length + 1) (0 : Int)]).getD i []) = ((T.rows ++ [List.replicate (T.col.length + 1) (0 : Int)]).getD i []).take T.col.length ++ insX T.bas.length i :: ((T.rows ++ [List.replicate (T.col.length + 1) (0 : Int)]).getD i []).drop T.col.length := rfl; generalize hline : (T.rows ++ [List.replicate (T.col.length + 1) (0 : Int)]).getD i [] = line at *; have hlg := XK (k := 10) (hl := hlx) (zs := insP T.bas.length T.col.length (T.rows ++ [List.replicate (T.col.length + 1) 0]) i) (i := i) (by omega) (by omega); rw [hat, hgi] at hlg; generalize hcur : insP T.bas.length T.col.length (T.rows ++ [List.replicate (T.col.length + 1) 0]) i = cur at *; refine QU (Qz (Qy (Q0 (Qy (Qx fun K hK => ?_))))); refine Qq J J J (Qo 1 (T.hl.length + 1) J J J (by simp [hhx]) J sMat (by omega) (by omega) J ?_); rw [ki]
    refine QJ J J J J (Yk (by omega)) lWhs J ?_
    rw [hgi]; refine Qv J J J (Qv J J J (Qj (hK _ _ (Qz (Qy ?_))))); clear hK K; refine Qx (fun K hK => ?_); refine QQ goof hof0 J J J J (Qf 4 J J zvWh J (by exact Zl 10 _ _ 4 (by decide)) J ?_); refine Qa 2 J J J J J szWh J J (Qj (hK _ _ (Qz (Qy (Qy ?_))))); clear hK K; refine Qx (fun K hK => ?_); refine Qq J J J (Qq J J J (Qw ilss J J J J (Qj (hK _ _ (Qz ?_))))); clear hK K
    refine Zw (α := Unit) (fun _ => True) (fun _ => [(0, .own 0), (1, .ct (intC art)), (5, .ct (intC T.bas.length)), (6, .ct (intC T.col.length)), (7, .ct (intC w0)), (11, .ct (intC i)), (12, .ct (.ex (kh gbi 0 (T.col.length + 1) (T.col.length + 1)))), (13, .own 4), (87, .ct (.ex (kh g1 0 (T.hl.length + 1) c1))), (88, .ct (intC ((T.hl.length + 1 : Nat) : Int))), (89, .ct (intC i))])
      (fun _ => (4, .box 94 (whCs (insX T.bas.length i))) :: (0, .box 98 [.ex (kh g1 0 (T.hl.length + 1) c1), .ex T.hB, .ex T.hC, boolC (decide (T.den < 0)), natC T.den.natAbs]) :: (1, .rowx (kh g1 0 (T.hl.length + 1) c1) 95 1 (hlx.map CT.ex)) :: (2, .rowx T.hB 3 1 (ints T.bas)) :: (3, .rowx T.hC 3 1 (ints T.col)) :: linesB 10 hlx cur) (fun _ _ => ?_) (fun KK hN => ?_)
    rotate_left
    · refine QK J (fun h4 => ?_) (fun h4 => ?_)
      · have ex : insX T.bas.length i = -1 := by unfold insX; rw [if_pos (by omega)]
        refine Qx (fun K hK => ?_); refine QQ goof hofm J J J J (Qa 2 J J J J J szWh J J (Qj (hK _ _ ?_))); clear hK K; exact XV hN () trivial (by exact Qu (by rw [ex]; rfl) ⟨rfl, rfl, rfl, rfl, rfl, rfl, rfl, rfl, rfl, rfl, rfl, trivial⟩)
      · refine Qy (Qx fun K hK => ?_); refine Qq J J J (Qq J J J (Qw (iadd (by omega) (by omega)) J J J J ?_)); refine Qw ieql J J J J (Qj (hK _ _ (Qz ?_))); clear hK K; refine QK J (fun h5 => ?_) (fun h5 => ?_)
        · have ex : insX T.bas.length i = 1 := by unfold insX; rw [if_neg (by omega), if_pos (by omega)]
          refine Qx (fun K hK => ?_); refine QQ goof hof1 J J J J (Qa 2 J J J J J szWh J J (Qj (hK _ _ ?_))); clear hK K; exact XV hN () trivial (by exact Qu (by rw [ex]; rfl) ⟨rfl, rfl, rfl, rfl, rfl, rfl, rfl, rfl, rfl, rfl, rfl, trivial⟩)
        · have ex : insX T.bas.length i = 0 := by unfold insX; rw [if_neg (by omega), if_neg (by omega)]
          refine QU ?_
          exact XV hN () trivial (by exact Qu (by rw [ex]; rfl) ⟨rfl, rfl, rfl, rfl, rfl, rfl, rfl, rfl, rfl, rfl, rfl, trivial⟩)
    generalize hxx : insX T.bas.length i = xx at *; have hins := (Insert_ok gbi (T.col.length + 1) line T.col.length xx hln (by omega) (by omega)).nm (i + 10) (fun _ _ => .inr J); refine St.drawQ mixed [9, 11] (.p 0 (.p 1 (.p 2 (.p 4 (.p 5 (.p 6 (.f 7 (.m 3 (.m 8 (.a 9 (.p 10 (.a 11 .done .non)) .non) .non) (.m 8 (.m 3 (.a 9 (.p 10 (.a 11 .done .non)) .non) (.a 9 (.m 3 (.p 10 (.a 11 .done .non)) .non) .non)) .non))))))))) (by kernel_rfl) (fun K hK => ?_)
    refine (fun (cont : ∀ x : Nat × Nat, (T.col.length + 2 ≤ x.2 ∧ x.2 ≤ maxLen) → Go.Own.Fin _ [(0, .own 0), (1, .ct (intC art)), (5, .ct (intC T.bas.length)), (6, .ct (intC T.col.length)), (7, .ct (intC w0)), (87, .ct (.ex (kh g1 0 (T.hl.length + 1) c1))), (88, .ct (intC ((T.hl.length + 1 : Nat) : Int))), (89, .ct (intC i))]
      (bset ((i + 10, .rowx (kh x.1 0 (T.col.length + 2) x.2) 94 2 (whs (line.take T.col.length ++ xx :: line.drop T.col.length))) :: bdel ((4, .box 94 (whCs xx)) :: (0, .box 98 [.ex (kh g1 0 (T.hl.length + 1) c1), .ex T.hB, .ex T.hC, boolC (decide (T.den < 0)), natC T.den.natAbs]) :: (1, .rowx (kh g1 0 (T.hl.length + 1) c1) 95 1 (hlx.map CT.ex)) :: (2, .rowx T.hB 3 1 (ints T.bas)) :: (3, .rowx T.hC 3 1 (ints T.col)) :: linesB 10 hlx cur) (i + 10)) 1 (.rowx (kh g1 0 (T.hl.length + 1) c1) 95 1 ((hlx.map CT.ex).set i (.ex (kh x.1 0 (T.col.length + 2) x.2))))) K) => ?_) (fun x hx => hK _ _ ?_)
    rotate_left
    · obtain ⟨g2, c2⟩ := x; clear hK K; refine Qz (Qx fun K hK => ?_)
      refine Qw (iadd (by omega) (by omega)) J J J J ?_
      refine Qq J J J (Qj (hK _ _ (Q4 ?_))); clear hK K
      refine Qb (i + 1, hlx.set i (kh g2 0 (T.col.length + 2) c2)) (by dsimp only; omega) ⟨by dsimp only; omega, by dsimp only; rw [List.length_set]; exact hhx, fun k hk1 hk2 => ?_⟩ (by exact Yx 4 (Yo (by
        dsimp only
        rw [← hset, hsetl, List.map_set]; exact upd_B4 (by omega) (by omega)) ⟨rfl, rfl, rfl, rfl, rfl, rfl, rfl, by simp only [Int.natCast_add]; rfl, trivial⟩))
      dsimp only at hk1 hk2 ⊢; rw [List.length_set] at hk2; obtain ⟨gb, hgb⟩ := hfx k (by omega) hk2; exact ⟨gb, by rw [List.getD_eq_getElem?_getD, List.getElem?_set_ne (by omega), ← List.getD_eq_getElem?_getD]; exact hgb⟩
    clear hK; refine Qm (Qq J J J (Qj ?_)); refine Qm (Q5 J J J J (Qj ?_)); refine Qm (QV J J J fT0 J (Qj ?_)); refine Qm (Qq J J J (Qj ?_)); refine Qm (Qq J J J (Qj ?_)); refine Qm (Qq J J J (Qj ?_)); refine Fin.qf (Qt (n := 2) J J J J J lWh J (Qj ?_))
    refine X5 ?_ ?_
    · refine QJ J J J J J lMat J (Qj ?_)
      refine X5 ?_ Q8
      refine Ops.litN (n := 2) J J sWhs J J (by decide) J (Qj ?_)
      refine Xx ?_ Q8
      refine Ops.call1 (i + 10) goInsert hins J J J hbor (by exact hlg) (fun p hp => ?_) (fun q j hq => ?_) (fun _ _ => ?_); rotate_left; rotate_left
      · refine Xw 113 (i + 10) (T.col.length + 2) J (Ql ..) (by rw [X9, List.length_append, List.length_cons, List.length_take, List.length_drop]; omega) (by omega) (by decide) (fun g2 c2 hc2 hc2m => ?_); rw [Zg]; refine Qj (Qm (Qo 1 (T.hl.length + 1) J J J (by simp [hhx]) J sMat (by omega) (by omega) J ?_)); rw [ki]; refine Qj (Xx (Qn J J J J J zWhs (by simp [Ent.cs, hhx]; omega) (Qj ?_)) Q8); exact X4 (Zv (cont (g2, c2) ⟨hc2, hc2m⟩) ⟨rfl, rfl, rfl, rfl, rfl, rfl, rfl, rfl, trivial⟩)
      · obtain ⟨k, hk, rfl⟩ := List.mem_map.1 hp
        obtain rfl : k = 0 := by simpa using hk
        exact ⟨by simp, rfl⟩
      · rcases hq with hq | ⟨o, hq⟩ <;> simp [Sl.ren] at hq; exact hq.symm
    · refine X5 ?_ Q8
      refine Ops.litN (n := 2) J J sWhs J J (by decide) J (Qj ?_)
      refine X5 ?_ ?_
      · refine QJ J J J J J lMat J (Qj ?_)
        refine Xx ?_ Q8
        refine Ops.call1 (i + 10) goInsert hins J J J hbor (by exact hlg) (fun p hp => ?_) (fun q j hq => ?_) (fun _ _ => ?_); rotate_left; rotate_left
        · refine Xw 113 (i + 10) (T.col.length + 2) J (Ql ..) (by rw [X9, List.length_append, List.length_cons, List.length_take, List.length_drop]; omega) (by omega) (by decide) (fun g2 c2 hc2 hc2m => ?_); rw [Zg]; refine Qj (Qm (Qo 1 (T.hl.length + 1) J J J (by simp [hhx]) J sMat (by omega) (by omega) J ?_)); rw [ki]; refine Qj (Xx (Qn J J J J J zWhs (by simp [Ent.cs, hhx]; omega) (Qj ?_)) Q8); exact X4 (Zv (cont (g2, c2) ⟨hc2, hc2m⟩) ⟨rfl, rfl, rfl, rfl, rfl, rfl, rfl, rfl, trivial⟩)
        · obtain ⟨k, hk, rfl⟩ := List.mem_map.1 hp
          obtain rfl : k = 0 := by simpa using hk
          exact ⟨by simp, rfl⟩
        · rcases hq with hq | ⟨o, hq⟩ <;> simp [Sl.ren] at hq; exact hq.symm
      · refine Xx ?_ Q8
        refine Ops.call1 (i + 10) goInsert hins J J J hbor (by exact hlg) (fun p hp => ?_) (fun q j hq => ?_) (fun _ _ => ?_); rotate_left; rotate_left
        · refine Xw 113 (i + 10) (T.col.length + 2) J (Ql ..) (by rw [X9, List.length_append, List.length_cons, List.length_take, List.length_drop]; omega) (by omega) (by decide) (fun g2 c2 hc2 hc2m => ?_); rw [Zg]; refine Qj (X5 ?_ Q8); refine QJ J J J J J lMat J (Qj ?_); refine Qm (Qo 1 (T.hl.length + 1) J J J (by simp [hhx]) J sMat (by omega) (by omega) J ?_); rw [ki]; refine Qj (Xx (Qn J J J J J zWhs (by simp [Ent.cs, hhx]; omega) (Qj ?_)) Q8); exact X4 (Zv (cont (g2, c2) ⟨hc2, hc2m⟩) ⟨rfl, rfl, rfl, rfl, rfl, rfl, rfl, rfl, trivial⟩)
        · obtain ⟨k, hk, rfl⟩ := List.mem_map.1 hp
          obtain rfl : k = 0 := by simpa using hk
          exact ⟨by simp, rfl⟩
        · rcases hq with hq | ⟨o, hq⟩ <;> simp [Sl.ren] at hq; exact hq.symm
  have hi' : i = T.hl.length + 1 := by omega
  subst hi'
  have hcurE : insP T.bas.length T.col.length (T.rows ++ [List.replicate (T.col.length + 1) 0]) (T.hl.length + 1) = (insT T art).rows := by rw [hhl]; rfl
  rw [hcurE]; rw [hcurE] at hil; refine Qr (Qz (Qy (Qx fun K hK => ?_))); refine Qq J J J (Qq J J J (Q5 J J J J (QV J J J fT2 J (QJ J J J J J lInts J (Qq J J J (XQ J J sInts J J J (XJ 120 3 J J (Qi T.col.length (ints (T.col ++ [art])) J J J J sInts (by simp) J (by omega) (by omega) (by rw [Xo]; rfl) J ?_)))))))); refine Xw 123 3 (T.col.length + 1) J J (by simp) (by omega) (by decide) (fun g3 c3 hc3 hc3m => ?_); refine Q5 J J J J (QV J J J fT2 J (Qn J J J J J Yu (Nat.le_of_ble_eq_true J) (Qj (hK _ _ (Qz (Qy ?_)))))); clear hK K; refine Qx (fun K hK => ?_); refine Qq J J J (Qq J J J (Qq J J J ?_)); obtain ⟨H1, hH1⟩ : ∃ H1 : Tv, H1 = ⟨kh g1 0 (T.hl.length + 1) c1, T.hB, kh g3 0 (T.col.length + 1) c3, hlx, [], [], [], 0⟩ := ⟨_, rfl⟩
  have hH1l : H1.hl.length = (insT T art).rows.length := by rw [hH1, hil, hhx]; simp [hhl]
  have l1 : (insT T art).rows.length = T.rows.length + 1 := by rw [hil]; simp
  have l3 : (insT T art).col.length = T.col.length + 1 := by simp [insT]
  have lE := hE.lens; rw [Zq, pvt_bas, Ze, l1, l3, show (insT T art).bas = T.bas from rfl] at lE; obtain ⟨lE1, lE2, lE3⟩ := lE; have hGE := hE.last; have hGE1 := hGE.wh (H := H1) (by rw [hH1l, l1, lE1]); have hG1w := hG1.wh hH1l; have hpv := pivot_ok ((insT T art).wh H1) hG1w.fit hG1w.short hG1w.den hG1w.dens w0 T.col.length (by show w0 < T.bas.length; omega) (by show T.col.length < (insT T art).col.length; rw [l3]; omega); have hEw := hE.wh (H := H1) (by rw [Zq]; exact hH1l); rw [← pvt_wh] at hEw; have hmx := maximize_ok (pvt ((insT T art).wh H1) w0 T.col.length) (E.wh H1) (T.bas.length + 1) sE kE hEw (by rw [Zq]; show _ < (insT T art).rows.length; rw [l1]; omega)
  have hTeq : (insT T art).wh H1 = ⟨kh g1 0 (T.hl.length + 1) c1, T.hB, kh g3 0 (T.col.length + 1) c3, hlx, (insT T art).rows, T.bas, T.col ++ [art], T.den⟩ := by rw [hH1]; rfl
  refine Xh [] gopivot hpv J J J hbor (by rw [hTeq]; rfl) J hfix (fun _ _ => ?_); refine Qj (hK _ _ (Qz (Qy ?_))); clear hK K; refine Qx (fun K hK => ?_); refine Qq J J J (Qq J J J (Qw (iadd (by omega) (by omega)) J J J J ?_)); refine Xh [] gomaximize hmx J J J hbor J J hfix (fun _ _ => ?_); have hRd : (E.wh H1).rows = E.rows := rfl; have hBd : (E.wh H1).bas = E.bas := rfl
  have km1 : ((T.bas.length : Int) + 1).toNat * 1 = T.bas.length + 1 := by omega
  have kl3 : ((T.col.length : Int) + 1).toNat * 2 = (T.col.length + 1) * 2 := by omega
  have lH : H1.hl.length = T.rows.length + 1 := by rw [hH1l, l1]
  have hwn : ¬ wrS T T.bas.length < 0 := by rw [hwr]; omega
  have hrE := hGE.fit.row; rw [lE1, lE3] at hrE; have hrE1 := hrE (T.bas.length + 1) (by omega); refine Qj (hK _ _ (Qz (Qy (Qy ?_)))); clear hK K; refine Qx (fun K hK => ?_); refine Qq J J J (Q5 J J J J (QV J J J fT0 J (QJ J J J J J lMat J (Qq J J J (Qw (iadd (by omega) (by omega)) J J J J ?_)))))
  refine Qo 1 (T.rows.length + 1) J J J (by rw [List.length_map]; show H1.hl.length = _; omega) J sMat (by omega) (by omega) J ?_
  rw [km1]
  refine QJ J J J J (Yk (by show _ < H1.hl.length; omega)) lWhs J ?_
  refine Qq J J J (Qw (iadd (by omega) (by omega)) J J J J ?_)
  refine Qo (T.bas.length + 1 + 10) (T.col.length + 2) J J (XK (by show _ < H1.hl.length; omega) (by show _ < E.rows.length; omega)) (by rw [X9]; show (E.rows.getD (T.bas.length + 1) []).length * 2 = _; rw [hrE1]) J sWhs (by omega) (by omega) J ?_
  rw [kl3]
  refine ldWh J J J (XK (by show _ < H1.hl.length; omega) (by show _ < E.rows.length; omega)) J (by show _ < (E.rows.getD (T.bas.length + 1) []).length; omega) lWh J ?_
  refine QQ gosign (Yi (E.at (T.bas.length + 1) (T.col.length + 1))) J J J J ?_
  have hRp := R.piv; have hRf := R.fit2; have hRo := R.out
  have hout : stOut T E art = if E.at (T.bas.length + 1) (T.col.length + 1) < 0 then E else stE3 E T.bas.length T.col.length art := by unfold stOut; rw [if_neg hwn]
  have hres : stRes T E = !decide (E.at (T.bas.length + 1) (T.col.length + 1) < 0) := by unfold stRes; rw [decide_eq_false hwn, Bool.false_or]
  generalize E.at (T.bas.length + 1) (T.col.length + 1) = vE at *; refine Qw ilss J J J J (Qj (hK _ _ (Qz ?_))); clear hK K; refine QK J (fun h4 => ?_) (fun h4 => ?_)
  · have h5 := sgn_lt.1 h4; rw [if_pos h5] at hout; rw [decide_eq_true h5] at hres; refine Qy (Qx fun K hK => ?_); refine Qv J J J (Qj (hK _ _ (Qz (Q2 (QW ?_))))); clear hK K; refine Y3 H1 [_] rfl (QZ J QX) (by rw [hres]; rfl) (fun j => by rw [hout]; rfl) (by rw [hout, lH, lE1])
  have h5 : ¬ vE < 0 := fun h => h4 (sgn_lt.2 h)
  rw [if_neg h5] at hout; rw [decide_eq_false h5] at hres; have hRp := hRp h5; have hRf := hRf h5; have hRo := hRo h5; have hIx : Ok Tryz.prog 128 [intsC E.bas, intC art] (intC (fIx E.bas art)) := Index_ints E.bas art (by omega); have bIx := fIx_bd E.bas art; have bnz := nzC_bd (E := E) (last := T.col.length) (art := art); have hnzd : nzC E T.col.length art = idxI (fun x => decide (x ≠ 0)) ((E.rows.getD (fIx E.bas art).toNat []).take (T.col.length + 1)) := rfl
  have hE2d : stE2 E T.col.length art = if fIx E.bas art < 0 then E else pvt E (fIx E.bas art).toNat (nzC E T.col.length art).toNat := rfl
  refine QU (Qz (Qy (Qy (Qx fun K hK => ?_)))); refine Qq J J J (Q5 J J J J (QV J J J fT1 J (QJ J J J J J lInts J (Qq J J J (Ops.callRO 2 goIndex_ints hIx J J (fun a ρ w hI => ?_) J J ?_)))))
  · have h1 := hI.readX (i := 2) (el := 3) (n := 1) (v := H1.hB) (es := E.bas.map fun x => [intC x]) (by rw [ints_flat]; rfl) (by simp) (by decide) hbor; have h2 : a.eval (.tmp 151) = H1.hB := hI.evx J; exact ⟨by rw [h2]; exact h1, hI.evx J, trivial⟩
  generalize fIx E.bas art = rx at *; refine Qv J J J (Qj (hK _ _ (Qz (Qy ?_)))); clear hK K; refine Qx (fun K hK => ?_); refine Qq J J J (Qw igeq J J J J (Qj (hK _ _ (Qz ?_)))); clear hK K; have lE2' := stE2_lens E T.col.length art; have hE3d : stE3 E T.bas.length T.col.length art = { stE2 E T.col.length art with rows := delP (fIx (stE2 E T.col.length art).col art).toNat ((stE2 E T.col.length art).rows.take (T.bas.length + 1)) (T.bas.length + 1), col := (stE2 E T.col.length art).col.eraseIdx (fIx (stE2 E T.col.length art).col art).toNat, hl := (stE2 E T.col.length art).hl.take (T.bas.length + 1) } := rfl; generalize hE2 : stE2 E T.col.length art = E2 at *
  refine Zw (α := Unit) (fun _ => True) (fun _ => [(0, .own 0), (1, .ct (intC art)), (5, .ct (intC T.bas.length)), (6, .ct (intC T.col.length))])
    (fun _ => (0, .box 98 [.ex (kh g1 0 (T.hl.length + 1) c1), .ex T.hB, .ex (kh g3 0 (T.col.length + 1) c3), boolC (decide (E2.den < 0)), natC E2.den.natAbs]) :: (1, .rowx (kh g1 0 (T.hl.length + 1) c1) 95 1 (hlx.map CT.ex)) :: (2, .rowx T.hB 3 1 (ints E2.bas)) :: (3, .rowx (kh g3 0 (T.col.length + 1) c3) 3 1 (ints E2.col)) :: linesB 10 hlx E2.rows) (fun _ _ => ?_) (fun KK hN => ?_)
  rotate_left
  · refine QK J (fun h6 => ?_) (fun h6 => ?_)
    · obtain ⟨q, rfl⟩ : ∃ q : Nat, rx = q := ⟨rx.toNat, by omega⟩; have hnz := hRp h6; rw [Int.toNat_natCast] at hnzd; rw [if_neg (by omega), Int.toNat_natCast] at hE2d
      have hq2 : q < T.rows.length + 1 := by omega
      have hrq := hrE q (by omega)
      have kq : (q : Int).toNat * 1 = q := by omega
      obtain ⟨s2, hs2⟩ : ∃ s2 : Nat, nzC E T.col.length art = s2 := ⟨(nzC E T.col.length art).toNat, by omega⟩; rw [hs2] at hnzd bnz; rw [hs2, Int.toNat_natCast] at hE2d; have hpv2 := pivot_ok (E.wh H1) hGE1.fit hGE1.short hGE1.den hGE1.dens q s2 (by show q < E.bas.length; omega) (by show s2 < E.col.length; omega); have hlg : bget (tabB (E.wh H1)) (q + 10) = some (.rowx ((E.wh H1).hl.getD q default) 94 2 (whs (E.rows.getD q []))) := XK (by show q < H1.hl.length; omega) (by show q < E.rows.length; omega); refine Qy (Qx fun K hK => ?_); refine Qq J J J (Q5 J J J J (QV J J J fT0 J (QJ J J J J J lMat J (Qq J J J (Qo 1 (T.rows.length + 1) J J J (by rw [List.length_map]; show H1.hl.length = _; omega) J sMat (by omega) (by omega) J ?_))))); rw [kq]
      refine QJ J J J J (Yk (by show _ < H1.hl.length; omega)) lWhs J ?_
      refine Ops.hand (q + 10) (T.col.length + 2) (by exact hlg) (by rw [X9, hrq]) (by omega) (by decide) (fun gb cc hh hcc hccm => ?_); rw [hh] at hlg; rw [hh]; refine Qq J J J (Qw (iadd (by omega) (by omega)) J J J J ?_)
      refine Ops.cutKh (T.col.length + 1) J J J (by omega) sWhs (by omega) J ?_
      refine Ops.callRO (q + 10) (u := .int .i64 (s2 : Int)) goIndexFunc_whs (by
        have := IndexFunc_whs ((E.rows.getD q []).take (T.col.length + 1)) 130 (fun x => decide (x ≠ 0)) gostart1 (fun x _ => start1_ok x) (by rw [List.length_take]; omega); rw [← hnzd] at this
        exact this) J (by exact hlg) (fun a ρ w hI => ?_) J J ?_
      · have h1 := hI.readK (i := q + 10) (es := (E.rows.getD q []).map whCs) (T.col.length + 1) (by exact hlg) (by rw [List.length_map, hrq]) (by simp) (by decide) (by omega) (by omega) hbor; rw [← List.map_take] at h1; have h2 : a.eval (.tmp 165) = kh gb 0 (T.col.length + 1) cc := hI.evx J; exact ⟨by rw [h2]; exact h1, hI.evx J, trivial⟩
      refine Qv J J J (Qj (hK _ _ (Qz ?_))); clear hK K; refine Qx (fun K hK => ?_); refine Qq J J J (Qq J J J (Qq J J J (Xh [] gopivot hpv2 J J J hbor J J hfix (fun _ _ => ?_)))); refine Qj (hK _ _ ?_); clear hK K; exact XV hN () trivial (by exact Qu (by rw [hE2d, hH1]; rfl) ⟨rfl, rfl, rfl, rfl, trivial⟩)
    · rw [if_pos (by omega)] at hE2d
      refine QU ?_
      exact XV hN () trivial (by exact Qu (by rw [hE2d, hH1]; rfl) ⟨rfl, rfl, rfl, rfl, trivial⟩)
  have hr2 := hRf.row; rw [lE2'.1, lE2'.2.2, lE1, lE3] at hr2; exact start_tail T E E2 art g1 c1 g3 c3 hlx S w ρ0 hbor hout (by rw [hres]; rfl) hE3d hRo (fun i hi => by rw [hr2 i (by omega)]) (by omega) (by omega) (by omega) (by omega) hc1 hc3 (by omega) (by omega)
end Go.Proofs.YtdhmbgogmoaofaaGreat
namespace Go.Det
abbrev Vec := Nat → Int
def exps (f : List Vec → Int) (r : Nat) : List Vec → List Vec → Int
  | _, [] => 0
  | p, c :: q => c r * f (p ++ q) - exps f r (p ++ [c]) q
def det : Nat → Nat → List Vec → Int
  | 0, _, _ => 1
  | k + 1, r, cs => exps (det k (r + 1)) r [] cs
def lin (x : Int) (u : Vec) (y : Int) (w : Vec) : Vec := fun i => x * u i + y * w i
def Lin (f : List Vec → Int) : Prop := ∀ (A C : List Vec) (x y : Int) (u w : Vec), f (A ++ lin x u y w :: C) = x * f (A ++ u :: C) + y * f (A ++ w :: C)
theorem exps_lin_pre {f : List Vec → Int} (hf : Lin f) (r : Nat) (x y : Int) (u w : Vec) : ∀ (q P Q : List Vec),
    exps f r (P ++ lin x u y w :: Q) q = x * exps f r (P ++ u :: Q) q + y * exps f r (P ++ w :: Q) q
  | [], _, _ => by simp [exps]
  | c :: q, P, Q => by
    have ih := exps_lin_pre hf r x y u w q P (Q ++ [c])
    have h := hf P (Q ++ q) x y u w
    simp only [exps, List.append_assoc, List.cons_append] at *
    rw [ih, h]; grind
theorem det_lin' : ∀ (k r : Nat) (A C : List Vec) (x y : Int) (u w : Vec), A.length + 1 + C.length = k →
    det k r (A ++ lin x u y w :: C) = x * det k r (A ++ u :: C) + y * det k r (A ++ w :: C) := by
  intro k
  induction k with
  | zero => intro r A C x y u w h; omega
  | succ k ih =>
    intro r A C x y u w h
    have key : ∀ (q P Q : List Vec), P.length + 1 + Q.length + q.length = k + 1 →
        exps (det k (r + 1)) r (P ++ lin x u y w :: Q) q = x * exps (det k (r + 1)) r (P ++ u :: Q) q + y * exps (det k (r + 1)) r (P ++ w :: Q) q := by
      intro q
      induction q with
      | nil => intro P Q _; simp [exps]
      | cons c q ih2 =>
        intro P Q hl; have i2 := ih2 P (Q ++ [c]) (by simp at hl ⊢; omega); have i1 := ih (r + 1) P (Q ++ q) x y u w (by simp at hl ⊢; omega); simp only [exps, List.append_assoc, List.cons_append] at *; rw [i2, i1]; grind
    have key2 : ∀ (A C P : List Vec), P.length + A.length + 1 + C.length = k + 1 →
        exps (det k (r + 1)) r P (A ++ lin x u y w :: C) = x * exps (det k (r + 1)) r P (A ++ u :: C) + y * exps (det k (r + 1)) r P (A ++ w :: C) := by
      intro A
      induction A with
      | nil =>
        intro C P hl; have i2 := key C P [] (by simp at hl ⊢; omega); simp only [exps, List.nil_append] at *; rw [i2]; simp only [lin]; grind
      | cons a A ih2 =>
        intro C P hl; have i2 := ih2 C (P ++ [a]) (by simp at hl ⊢; omega); have i1 := ih (r + 1) (P ++ A) C x y u w (by simp at hl ⊢; omega); simp only [exps, List.append_assoc, List.cons_append] at *; rw [i2, i1]; grind
    exact key2 A C [] (by simp; omega)
theorem det_adj : ∀ (k r : Nat) (A C : List Vec) (u : Vec), A.length + 2 + C.length = k → det k r (A ++ u :: u :: C) = 0 := by
  intro k
  induction k with
  | zero => intro r A C u h; omega
  | succ k ih =>
    intro r A C u h
    have key : ∀ (q P Q : List Vec), P.length + 2 + Q.length + q.length = k + 1 → exps (det k (r + 1)) r (P ++ u :: u :: Q) q = 0 := by
      intro q
      induction q with
      | nil => intro P Q _; rfl
      | cons c q ih2 =>
        intro P Q hl; have i2 := ih2 P (Q ++ [c]) (by simp at hl ⊢; omega); have i1 := ih (r + 1) P (Q ++ q) u (by simp at hl ⊢; omega); simp only [exps, List.append_assoc, List.cons_append] at *; rw [i2, i1]; grind
    have key2 : ∀ (A C P : List Vec), P.length + A.length + 2 + C.length = k + 1 → exps (det k (r + 1)) r P (A ++ u :: u :: C) = 0 := by
      intro A
      induction A with
      | nil =>
        intro C P hl; have i2 := key C P [] (by simp at hl ⊢; omega); simp only [exps, List.nil_append, List.append_assoc, List.cons_append] at *; rw [i2]; grind
      | cons a A ih2 =>
        intro C P hl; have i2 := ih2 C (P ++ [a]) (by simp at hl ⊢; omega); have i1 := ih (r + 1) (P ++ A) C u (by simp at hl ⊢; omega); simp only [exps, List.append_assoc, List.cons_append] at *; rw [i2, i1]; grind
    exact key2 A C [] (by simp; omega)
def dt (cs : List Vec) : Int := det cs.length 0 cs
theorem dt_lin (A C : List Vec) (x y : Int) (u w : Vec) : dt (A ++ lin x u y w :: C) = x * dt (A ++ u :: C) + y * dt (A ++ w :: C) := by
  unfold dt
  have e : ∀ z : Vec, (A ++ z :: C).length = A.length + 1 + C.length := fun z => by simp; omega
  rw [e, e, e]; exact det_lin' _ _ A C x y u w J
theorem dt_adj (A C : List Vec) (u : Vec) : dt (A ++ u :: u :: C) = 0 := by
  unfold dt; exact det_adj _ _ A C u (by simp; omega)
theorem dt_swap1 (A C : List Vec) (u w : Vec) : dt (A ++ u :: w :: C) = - dt (A ++ w :: u :: C) := by
  have h := dt_adj A C (lin 1 u 1 w); rw [dt_lin A] at h; have h1 := dt_lin (A ++ [u]) C 1 1 u w; have h2 := dt_lin (A ++ [w]) C 1 1 u w; simp only [List.append_assoc, List.cons_append, List.nil_append] at h1 h2; rw [h1, h2, dt_adj, dt_adj] at h; omega
theorem dt_eq (u : Vec) : ∀ (M A C : List Vec), dt (A ++ u :: (M ++ u :: C)) = 0
  | [], A, C => dt_adj A C u
  | m :: M, A, C => by
    rw [List.cons_append, dt_swap1]
    have := dt_eq u M (A ++ [m]) C
    simp only [List.append_assoc, List.cons_append, List.nil_append] at this
    rw [this]; rfl
theorem dt_swap (A M C : List Vec) (u w : Vec) : dt (A ++ u :: (M ++ w :: C)) = - dt (A ++ w :: (M ++ u :: C)) := by
  have h := dt_eq (lin 1 u 1 w) M A C; rw [dt_lin A] at h; have h1 := dt_lin (A ++ u :: M) C 1 1 u w; have h2 := dt_lin (A ++ w :: M) C 1 1 u w; simp only [List.append_assoc, List.cons_append, List.nil_append] at h1 h2; rw [h1, h2, dt_eq, dt_eq] at h; omega
def unit (i : Nat) : Vec := fun j => if j = i then 1 else 0
theorem exps_zero (f : List Vec → Int) (r : Nat) : ∀ (q P : List Vec), (∀ c ∈ q, c r = 0) → exps f r P q = 0
  | [], _, _ => rfl
  | c :: q, P, h => by
    simp only [exps]
    rw [h c (List.mem_cons_self ..), exps_zero f r q _ (fun c hc => h c (List.mem_cons_of_mem _ hc))]; simp
theorem det_unit : ∀ (k r : Nat), det k r ((List.range' r k).map unit) = 1
  | 0, _ => rfl
  | k + 1, r => by
    rw [List.range'_succ, List.map_cons, det, exps, exps_zero]
    · rw [List.nil_append, det_unit k (r + 1)]; simp [unit]
    · intro c hc
      obtain ⟨i, hi, rfl⟩ := List.mem_map.1 hc
      rw [List.mem_range'_1] at hi
      simp only [unit]; rw [if_neg (by omega)]
theorem dt_unit (k : Nat) : dt ((List.range k).map unit) = 1 := by
  unfold dt; rw [List.length_map, List.length_range, List.range_eq_range']; exact det_unit k 0
def fact : Nat → Nat
  | 0 => 1
  | n + 1 => (n + 1) * fact n
theorem exps_bd {f : List Vec → Int} {r : Nat} {M F : Nat} : ∀ (q P : List Vec), (∀ c ∈ q, (c r).natAbs ≤ M) → (∀ A B c, q = A ++ c :: B → (f (P ++ A ++ B)).natAbs ≤ F) → (exps f r P q).natAbs ≤ q.length * (M * F)
  | [], _, _, _ => by simp [exps]
  | c :: q, P, h, hf => by
    have i := exps_bd (f := f) (r := r) (M := M) (F := F) q (P ++ [c]) (fun c hc => h c (List.mem_cons_of_mem _ hc)) (fun A B d e => by
      have := hf (c :: A) B d (by rw [e]; rfl)
      simpa using this)
    have h1 := h c (List.mem_cons_self ..)
    have h2 := hf [] q c rfl
    simp only [List.append_nil] at h2
    have h3 : (c r * f (P ++ q)).natAbs ≤ M * F := by rw [Int.natAbs_mul]; exact Nat.mul_le_mul h1 h2
    simp only [exps, List.length_cons, Nat.add_mul, Nat.one_mul]
    omega
theorem det_bd {M : Nat} : ∀ (k r : Nat) (cs : List Vec), cs.length = k → (∀ c ∈ cs, ∀ i, (c i).natAbs ≤ M) → (det k r cs).natAbs ≤ fact k * M ^ k
  | 0, _, _, _, _ => by simp [det, fact]
  | k + 1, r, cs, hl, h => by
    have := exps_bd (f := det k (r + 1)) (r := r) (M := M) (F := fact k * M ^ k) cs [] (fun c hc => h c hc r) (fun A B c e => by
      refine det_bd k (r + 1) _ (by subst e; simp at hl ⊢; omega) (fun d hd i => h d ?_ i)
      subst e
      simp only [List.nil_append, List.mem_append, List.mem_cons] at hd ⊢
      rcases hd with hd | hd
      · exact .inl hd
      · exact .inr (.inr hd))
    rw [hl] at this
    simp only [det, fact, Nat.pow_succ]
    refine Nat.le_trans this (Nat.le_of_eq ?_)
    grind
theorem dt_bd {M : Nat} (cs : List Vec) (h : ∀ c ∈ cs, ∀ i, (c i).natAbs ≤ M) : (dt cs).natAbs ≤ fact cs.length * M ^ cs.length := det_bd _ _ cs rfl h
def sm (f : Nat → Int) : Nat → Int
  | 0 => 0
  | k + 1 => sm f k + f k
theorem Xt {f g : Nat → Int} : ∀ {n : Nat}, (∀ k, k < n → f k = g k) → sm f n = sm g n
  | 0, _ => rfl
  | n + 1, h => by simp only [sm]; rw [Xt fun k hk => h k (by omega), h n (by omega)]
theorem Z4 {f : Nat → Int} : ∀ {n : Nat}, (∀ k, k < n → f k = 0) → sm f n = 0
  | 0, _ => rfl
  | n + 1, h => by simp only [sm]; rw [Z4 fun k hk => h k (by omega), h n (by omega)]; rfl
theorem Y2 (c : Int) (f : Nat → Int) : ∀ n : Nat, sm (fun k => c * f k) n = c * sm f n
  | 0 => by simp [sm]
  | n + 1 => by simp only [sm]; rw [Y2 c f n, Int.mul_add]
theorem sm_add (f g : Nat → Int) : ∀ n : Nat, sm (fun k => f k + g k) n = sm f n + sm g n
  | 0 => rfl
  | n + 1 => by simp only [sm]; rw [sm_add f g n]; omega
theorem Jw {f : Nat → Int} {i : Nat} : ∀ {n : Nat}, i < n → (∀ k, k < n → k ≠ i → f k = 0) → sm f n = f i
  | 0, h, _ => by omega
  | n + 1, h, hz => by
    simp only [sm]
    by_cases e : i = n
    · subst e; rw [Z4 fun k hk => hz k (by omega) (by omega)]; omega
    · rw [Jw (by omega : i < n) fun k hk hki => hz k (by omega) hki, hz n (by omega) (Ne.symm e)]; omega
theorem sm_two {f : Nat → Int} {i r : Nat} : ∀ {n : Nat}, i < n → r < n → i ≠ r → (∀ k, k < n → k ≠ i → k ≠ r → f k = 0) → sm f n = f i + f r
  | 0, h, _, _, _ => by omega
  | n + 1, h, h2, hn, hz => by
    simp only [sm]
    by_cases e : i = n
    · subst e; rw [Jw (by omega : r < i) fun k hk hki => hz k (by omega) (by omega) hki]; omega
    · by_cases e2 : r = n
      · subst e2; rw [Jw (by omega : i < r) fun k hk hki => hz k (by omega) hki (by omega)]
      · rw [sm_two (by omega : i < n) (by omega : r < n) hn fun k hk h3 h4 => hz k (by omega) h3 h4, hz n (by omega) (Ne.symm e) (Ne.symm e2)]; omega
theorem sm_pos {f : Nat → Int} : ∀ {n : Nat}, 0 < sm f n → ∃ k, k < n ∧ 0 < f k
  | 0, h => by simp [sm] at h
  | n + 1, h => by
    simp only [sm] at h
    by_cases h1 : 0 < f n
    · exact ⟨n, by omega, h1⟩
    · obtain ⟨k, hk, h2⟩ := sm_pos (f := f) (n := n) (by omega)
      exact ⟨k, by omega, h2⟩
theorem sm_le {f g : Nat → Int} : ∀ {n : Nat}, (∀ k, k < n → f k ≤ g k) → sm f n ≤ sm g n
  | 0, _ => Int.le_refl _
  | n + 1, h => by simp only [sm]; have := sm_le (n := n) fun k hk => h k (by omega); have := h n (by omega); omega
theorem sm_swap (a : Nat → Nat → Int) (m : Nat) : ∀ n : Nat, sm (fun j => sm (fun i => a i j) m) n = sm (fun i => sm (fun j => a i j) n) m
  | 0 => by simp only [sm]; rw [Z4]; intros; rfl
  | n + 1 => by simp only [sm]; rw [sm_swap a m n, sm_add]
theorem set_split {α : Type} {l : List α} {i : Nat} (h : i < l.length) (x : α) : l.set i x = l.take i ++ x :: l.drop (i + 1) := List.set_eq_take_append_cons_drop .. |>.trans (by rw [if_pos h])
theorem dt_set_lin {l : List Vec} {i : Nat} (h : i < l.length) (x y : Int) (u w : Vec) : dt (l.set i (lin x u y w)) = x * dt (l.set i u) + y * dt (l.set i w) := by
  rw [set_split h, set_split h, set_split h, dt_lin]
theorem two_split {α : Type} {l : List α} {i r : Nat} (h : i < r) (hr : r < l.length) (x y : α) : ∃ P M C : List α, (l.set i x).set r y = P ++ x :: (M ++ y :: C) ∧ ∀ x' y' : α, (l.set i x').set r y' = P ++ x' :: (M ++ y' :: C) := by
  have key : ∀ x' y' : α, (l.set i x').set r y' = l.take i ++ x' :: ((l.drop (i + 1)).take (r - (i + 1)) ++ y' :: l.drop (r + 1)) := fun x' y' => by
    rw [set_split (by omega) x', List.set_append_right _ _ (by rw [List.length_take]; omega)]
    congr 1
    have e : r - (List.take i l).length = (r - (i + 1)) + 1 := by rw [List.length_take]; omega
    rw [e, List.set_cons_succ, set_split (by rw [List.length_drop]; omega)]
    congr 3
    rw [List.drop_drop]; congr 1; omega
  exact ⟨_, _, _, key x y, key⟩
theorem dt_set_eq {l : List Vec} {i r : Nat} (hi : i < l.length) (hr : r < l.length) (h : i ≠ r) (u : Vec) : dt ((l.set i u).set r u) = 0 := by
  rcases Nat.lt_or_gt_of_ne h with h1 | h1
  · obtain ⟨P, M, C, e, _⟩ := two_split h1 hr u u; rw [e]; exact dt_eq u M P C
  · rw [List.set_comm _ _ h]; obtain ⟨P, M, C, e, _⟩ := two_split h1 hi u u; rw [e]; exact dt_eq u M P C
theorem dt_set_swap {l : List Vec} {i r : Nat} (hi : i < l.length) (hr : r < l.length) (h : i ≠ r) (u w : Vec) : dt ((l.set i u).set r w) = - dt ((l.set i w).set r u) := by
  rcases Nat.lt_or_gt_of_ne h with h1 | h1
  · obtain ⟨P, M, C, _, e⟩ := two_split h1 hr u w; rw [e, e]; exact dt_swap P M C u w
  · rw [List.set_comm _ _ h, List.set_comm _ _ h]; obtain ⟨P, M, C, _, e⟩ := two_split h1 hi u w; rw [e, e]; exact dt_swap P M C w u
def zv : Vec := fun _ => 0
def comb (c : Nat → Int) (u : Nat → Vec) (n : Nat) : Vec := fun i => sm (fun k => c k * u k i) n
theorem dt_set_zero {l : List Vec} {i : Nat} (h : i < l.length) : dt (l.set i zv) = 0 := by
  have := dt_set_lin h 0 0 zv zv; rw [show lin 0 zv 0 zv = zv from funext fun j => by simp [lin, zv]] at this
  simpa using this
theorem Y7 {l : List Vec} {i : Nat} (h : i < l.length) (c : Nat → Int) (u : Nat → Vec) : ∀ n, dt (l.set i (comb c u n)) = sm (fun k => c k * dt (l.set i (u k))) n
  | 0 => by
    rw [show comb c u 0 = zv by funext j; rfl, dt_set_zero h]; rfl
  | n + 1 => by
    have e : comb c u (n + 1) = lin 1 (comb c u n) (c n) (u n) := by funext j; simp [comb, lin, sm]
    rw [e, dt_set_lin h, Y7 h c u n]; simp [sm]
theorem dt_set_smul {l : List Vec} {i : Nat} (h : i < l.length) (x : Int) (u : Vec) : dt (l.set i (fun j => x * u j)) = x * dt (l.set i u) := by
  have := dt_set_lin h x 0 u zv; rw [show lin x u 0 zv = fun j => x * u j from funext fun j => by simp [lin]] at this; rw [this]; simp
section
variable (A : Nat → Vec)
def cols (bs : List Nat) : List Vec := bs.map A
def dD (bs : List Nat) : Int := dt (cols A bs)
def dT (bs : List Nat) (i : Nat) (x : Vec) : Int := dt ((cols A bs).set i x)
end
variable {A : Nat → Vec} {M : Nat} {bs : List Nat}
theorem Z6 : (cols A bs).length = bs.length := by simp [cols]
theorem cols_set (r s : Nat) : cols A (bs.set r s) = (cols A bs).set r (A s) := by simp [cols, List.map_set]
theorem cols_at {k : Nat} (h : k < bs.length) : (cols A bs)[k]? = some (A (bs.getD k 0)) := by simp [cols, List.getD_eq_getElem?_getD, h]
theorem set_same {α : Type} {l : List α} {i : Nat} {x : α} (h : l[i]? = some x) : l.set i x = l := by
  obtain ⟨h1, h2⟩ := List.getElem?_eq_some_iff.1 h; rw [← h2]; exact List.set_getElem_self h1
theorem dT_own {i : Nat} (h : i < bs.length) : dT A bs i (A (bs.getD i 0)) = dD A bs := by
  unfold dT dD; rw [set_same (cols_at h)]
theorem dT_other {i k : Nat} (hi : i < bs.length) (hk : k < bs.length) (h : k ≠ i) : dT A bs i (A (bs.getD k 0)) = 0 := by
  unfold dT
  have e : (cols A bs).set i (A (bs.getD k 0)) = ((cols A bs).set k (A (bs.getD k 0))).set i (A (bs.getD k 0)) := by rw [set_same (cols_at hk)]
  rw [e]; exact dt_set_eq (by rw [Z6]; exact hk) (by rw [Z6]; exact hi) h _
theorem Yh {i k : Nat} (hi : i < bs.length) (hk : k < bs.length) (h : k ≠ i) (he : bs.getD i 0 = bs.getD k 0) : dD A bs = 0 := by
  rw [← dT_own hi, he]; exact dT_other hi hk h
structure Bas (A : Nat → Vec) (V : Vec → Prop) (M : Nat) (bs : List Nat) : Prop where
  len : bs.length = M
  ne : dD A bs ≠ 0
  cr : ∀ x, V x → ∀ j, dD A bs * x j = sm (fun k => dT A bs k x * A (bs.getD k 0) j) M
theorem Bas.vec {V : Vec → Prop} (h : Bas A V M bs) {x : Vec} (hx : V x) : (fun j => dD A bs * x j) = comb (fun k => dT A bs k x) (fun k => A (bs.getD k 0)) M := funext fun j => h.cr x hx j
theorem Bas.two {V : Vec → Prop} (h : Bas A V M bs) {l : List Vec} {i : Nat} (hi : i < l.length) {x : Vec} (hx : V x) : dD A bs * dt (l.set i x) = sm (fun k => dT A bs k x * dt (l.set i (A (bs.getD k 0)))) M := by
  rw [← dt_set_smul hi, h.vec hx, Y7 hi]
theorem getD_set' {bs : List Nat} {r s i : Nat} (hr : r < bs.length) : (bs.set r s).getD i 0 = if r = i then s else bs.getD i 0 := by
  simp only [List.getD_eq_getElem?_getD, List.getElem?_set]; by_cases hp : r = i
  · subst hp; simp [hr]
  · simp [hp]
theorem piv_D (r s : Nat) : dD A (bs.set r s) = dT A bs r (A s) := by unfold dD dT; rw [cols_set]
theorem piv_r (r s : Nat) (x : Vec) : dT A (bs.set r s) r x = dT A bs r x := by unfold dT; rw [cols_set, List.set_set]
theorem Bas.piv_i {V : Vec → Prop} (h : Bas A V M bs) {r s i : Nat} (hr : r < M) (hi : i < M) (hir : i ≠ r) {x : Vec} (hx : V x) :
    dD A bs * dT A (bs.set r s) i x = dT A bs r (A s) * dT A bs i x - dT A bs r x * dT A bs i (A s) := by
  have hl := h.len
  have hcl : (cols A bs).length = M := by rw [Z6]; exact hl
  have e : dT A (bs.set r s) i x = dt (((cols A bs).set r (A s)).set i x) := by unfold dT; rw [cols_set]
  rw [e, h.two (by rw [List.length_set]; omega) hx]; rw [sm_two hi hr hir]
  · have e1 : dt (((cols A bs).set r (A s)).set i (A (bs.getD i 0))) = dT A bs r (A s) := by
      rw [List.set_comm _ _ (Ne.symm hir), set_same (cols_at (by omega))]; rfl
    have e2 : dt (((cols A bs).set r (A s)).set i (A (bs.getD r 0))) = - dT A bs i (A s) := by
      rw [dt_set_swap (by omega) (by omega) (Ne.symm hir), set_same (cols_at (by omega))]; rfl
    rw [e1, e2]; grind
  · intro k hk h1 h2
    have e1 : ((cols A bs).set r (A s)).set i (A (bs.getD k 0)) = (((cols A bs).set r (A s)).set k (A (bs.getD k 0))).set i (A (bs.getD k 0)) := by
      rw [List.set_comm (i := r) (j := k) _ _ (Ne.symm h2), set_same (cols_at (by omega))]
    rw [e1, dt_set_eq (by rw [List.length_set]; omega) (by rw [List.length_set]; omega) h1, Int.mul_zero]
theorem piv_l {r s i : Nat} (hr : r < bs.length) (hi : i < bs.length) (hir : i ≠ r) : dT A (bs.set r s) i (A (bs.getD r 0)) = - dT A bs i (A s) := by
  unfold dT; rw [cols_set, dt_set_swap (by rw [Z6]; omega) (by rw [Z6]; omega) (Ne.symm hir), set_same (cols_at hr)]
theorem sm_split {f : Nat → Int} {r : Nat} : ∀ {n : Nat}, r < n → sm f n = sm (fun k => if k = r then 0 else f k) n + f r
  | 0, h => by omega
  | n + 1, h => by
    simp only [sm]
    by_cases e : r = n
    · subst e
      rw [if_pos rfl, Xt (f := f) (g := fun k => if k = r then 0 else f k) fun k hk => by rw [if_neg (by omega)]]; omega
    · rw [if_neg (Ne.symm e), sm_split (by omega : r < n)]; omega
theorem Bas.piv {V : Vec → Prop} (h : Bas A V M bs) {r s : Nat} (hr : r < M) (hs : V (A s)) (hp : dT A bs r (A s) ≠ 0) : Bas A V M (bs.set r s) := by
  have hl := h.len; refine ⟨by rw [List.length_set]; exact hl, by rw [piv_D]; exact hp, fun x hx j => ?_⟩; have hne := h.ne
  refine Int.eq_of_mul_eq_mul_left hne ?_
  rw [piv_D, ← Y2, sm_split hr]
  have e1 : sm (fun k => if k = r then 0 else dD A bs * (dT A (bs.set r s) k x * A ((bs.set r s).getD k 0) j)) M = sm (fun k => if k = r then 0 else (dT A bs r (A s) * dT A bs k x - dT A bs r x * dT A bs k (A s)) * A (bs.getD k 0) j) M := Xt fun k hk => by
    by_cases hkr : k = r
    · rw [if_pos hkr, if_pos hkr]
    · rw [if_neg hkr, if_neg hkr, getD_set' (by omega), if_neg (Ne.symm hkr), ← h.piv_i hr hk hkr hx]; grind
  have e2 := sm_split (f := fun k => (dT A bs r (A s) * dT A bs k x - dT A bs r x * dT A bs k (A s)) * A (bs.getD k 0) j) hr
  have e3 : sm (fun k => (dT A bs r (A s) * dT A bs k x - dT A bs r x * dT A bs k (A s)) * A (bs.getD k 0) j) M = dT A bs r (A s) * (dD A bs * x j) - dT A bs r x * (dD A bs * A s j) := by
    rw [h.cr x hx j, h.cr (A s) hs j, ← Y2, ← Y2]
    have : ∀ f g : Nat → Int, sm f M - sm g M = sm (fun k => f k + (-1) * g k) M := fun f g => by rw [sm_add, Y2]; omega
    rw [this]
    exact Xt fun k hk => by grind
  rw [e3] at e2; rw [e1, getD_set' (by omega), if_pos J, piv_r]
  have e4 : sm (fun k => if k = r then 0 else (dT A bs r (A s) * dT A bs k x - dT A bs r x * dT A bs k (A s)) * A (bs.getD k 0) j) M = dT A bs r (A s) * (dD A bs * x j) - dT A bs r x * (dD A bs * A s j) := by
    have : (dT A bs r (A s) * dT A bs r x - dT A bs r x * dT A bs r (A s)) * A (bs.getD r 0) j = 0 := by grind
    omega
  rw [e4]; grind
theorem dT_unit {bs : List Nat} (hl : bs.length = M) (hu : ∀ i, i < M → A (bs.getD i 0) = unit i) {x : Vec} (hx : ∀ j, M ≤ j → x j = 0) {i : Nat} (hi : i < M) : dT A bs i x = x i := by
  have hD : dD A bs = 1 := by
    unfold dD; rw [← dt_unit M]
    congr 1
    apply List.ext_getElem?
    intro k; by_cases hk : k < M
    · rw [cols_at (by omega), hu k hk]; simp [hk]
    · rw [List.getElem?_eq_none (by rw [Z6]; omega), List.getElem?_eq_none (by simp; omega)]
  have e : x = comb x unit M := by
    funext j
    unfold comb; by_cases hj : j < M
    · rw [Jw hj fun k _ hk => by simp [unit, Ne.symm hk]]; simp [unit]
    · rw [hx j (by omega), Z4 fun k hk => by rw [show unit k j = 0 from if_neg (by omega), Int.mul_zero]]
  have e2 : dT A bs i x = sm (fun k => x k * dT A bs i (unit k)) M := by
    conv => lhs; rw [e]
    exact Y7 (by rw [Z6]; omega) x unit M
  rw [e2, Jw hi fun k hk hki => by rw [← hu k hk, dT_other (by omega) (by omega) hki, Int.mul_zero], ← hu i hi, dT_own (by omega), hD, Int.mul_one]
theorem Bas.start {bs : List Nat} {V : Vec → Prop} (hl : bs.length = M) (hu : ∀ i, i < M → A (bs.getD i 0) = unit i) (hV : ∀ x, V x → ∀ j, M ≤ j → x j = 0) : Bas A V M bs ∧ dD A bs = 1 := by
  have hD : dD A bs = 1 := by
    unfold dD; rw [← dt_unit M]
    congr 1
    apply List.ext_getElem?
    intro k; by_cases hk : k < M
    · rw [cols_at (by omega), hu k hk]; simp [hk]
    · rw [List.getElem?_eq_none (by rw [Z6]; omega), List.getElem?_eq_none (by simp; omega)]
  refine ⟨⟨hl, by rw [hD]; decide, fun x hx j => ?_⟩, hD⟩; rw [hD, Int.one_mul]; by_cases hj : j < M
  · rw [Jw hj fun k hk hkj => by rw [hu k hk]; simp [unit, Ne.symm hkj], dT_unit hl hu (hV x hx) hj, hu j hj]; simp [unit]
  · rw [hV x hx j (by omega), Z4 fun k hk => by rw [hu k hk, show unit k j = 0 from if_neg (by omega), Int.mul_zero]]
end Go.Det
namespace Go.Det
section
variable (A : Nat → Vec)
def tt (bs : List Nat) (i : Nat) (x : Vec) : Int := (dD A bs).sign * dT A bs i x
def den (bs : List Nat) : Int := (dD A bs).sign * dD A bs
end
variable {A : Nat → Vec} {V : Vec → Prop} {M : Nat} {bs : List Nat}
theorem sgn_sq {d : Int} (h : d ≠ 0) : d.sign * d.sign = 1 := by
  rcases Int.lt_or_gt_of_ne h with h | h
  · rw [Int.sign_eq_neg_one_of_neg h]; rfl
  · rw [Int.sign_eq_one_of_pos h]; rfl
theorem den_pos (h : dD A bs ≠ 0) : 0 < den A bs := by
  unfold den; rcases Int.lt_or_gt_of_ne h with h | h
  · rw [Int.sign_eq_neg_one_of_neg h]; omega
  · rw [Int.sign_eq_one_of_pos h]; omega
theorem sign_of_mul {d p : Int} (h : d ≠ 0) (hp : 0 < d.sign * p) : p.sign = d.sign := by
  rcases Int.lt_or_gt_of_ne h with h | h
  · rw [Int.sign_eq_neg_one_of_neg h] at hp ⊢; exact Int.sign_eq_neg_one_of_neg (by omega)
  · rw [Int.sign_eq_one_of_pos h] at hp ⊢; exact Int.sign_eq_one_of_pos (by omega)
theorem tt_own (hl : bs.length = M) {i : Nat} (h : i < M) : tt A bs i (A (bs.getD i 0)) = den A bs := by unfold tt den; rw [dT_own (by omega)]
theorem Yy (hl : bs.length = M) {i k : Nat} (hi : i < M) (hk : k < M) (h : k ≠ i) : tt A bs i (A (bs.getD k 0)) = 0 := by unfold tt; rw [dT_other (by omega) (by omega) h, Int.mul_zero]
theorem Bas.pos {r s : Nat} (h : Bas A V M bs) (hp : 0 < tt A bs r (A s)) : dT A bs r (A s) ≠ 0 := fun e => by unfold tt at hp; rw [e] at hp; simp at hp
theorem Bas.sgn' {r s : Nat} (h : Bas A V M bs) (hp : 0 < tt A bs r (A s)) : (dD A (bs.set r s)).sign = (dD A bs).sign := by
  rw [piv_D]; exact sign_of_mul h.ne hp
theorem Bas.den' {r s : Nat} (h : Bas A V M bs) (hp : 0 < tt A bs r (A s)) : den A (bs.set r s) = tt A bs r (A s) := by
  unfold den; rw [h.sgn' hp, piv_D]; rfl
theorem Bas.tt_r {r s : Nat} (h : Bas A V M bs) (hp : 0 < tt A bs r (A s)) (x : Vec) : tt A (bs.set r s) r x = tt A bs r x := by
  unfold tt; rw [h.sgn' hp, piv_r]
theorem Bas.tt_i {r s i : Nat} (h : Bas A V M bs) (hr : r < M) (hi : i < M) (hir : i ≠ r) (hp : 0 < tt A bs r (A s)) {x : Vec} (hx : V x) :
    den A bs * tt A (bs.set r s) i x = tt A bs r (A s) * tt A bs i x - tt A bs r x * tt A bs i (A s) := by
  have h1 := h.piv_i (s := s) hr hi hir hx; have h2 := sgn_sq h.ne; unfold tt den; rw [h.sgn' hp]; generalize (dD A bs).sign = σ at *
  grind
theorem Bas.tt_two {bs2 : List Nat} (h : Bas A V M bs) (h2 : Bas A V M bs2) {g : Nat} (hg : g < M) {x : Vec} (hx : V x) : den A bs * tt A bs2 g x = sm (fun k => tt A bs k x * tt A bs2 g (A (bs.getD k 0))) M := by
  have h1 := h.two (l := cols A bs2) (i := g) (by rw [Z6, h2.len]; exact hg) hx; unfold tt den
  have e : sm (fun k => (dD A bs).sign * dT A bs k x * ((dD A bs2).sign * dT A bs2 g (A (bs.getD k 0)))) M = (dD A bs).sign * (dD A bs2).sign * sm (fun k => dT A bs k x * dt ((cols A bs2).set g (A (bs.getD k 0)))) M := by
    rw [← Y2]
    exact Xt fun k _ => by unfold dT; grind
  rw [e, ← h1]; unfold dT; grind
structure Step (A : Nat → Vec) (m g : Nat) (q : Vec) (al : Nat → Prop) (bs : List Nat) (r s : Nat) : Prop where
  row : r < m
  alw : al s
  ent : tt A bs g (A s) < 0
  least : ∀ v, v < s → al v → 0 ≤ tt A bs g (A v)
  lev : 0 < tt A bs r (A s)
  ratio : ∀ i, i < m → 0 < tt A bs i (A s) → tt A bs r q * tt A bs i (A s) ≤ tt A bs i q * tt A bs r (A s)
  tie : ∀ i, i < m → 0 < tt A bs i (A s) → tt A bs r q * tt A bs i (A s) = tt A bs i q * tt A bs r (A s) → bs.getD r 0 ≤ bs.getD i 0
theorem Step.bas {m g r s : Nat} {q : Vec} {al : Nat → Prop} (h : Step A m g q al bs r s) (hB : Bas A V M bs) (hm : m ≤ M) (hA : ∀ v, V (A v)) : Bas A V M (bs.set r s) := hB.piv (by have := h.row; omega) (hA s) (hB.pos h.lev)
theorem Step.feas {m g r s : Nat} {q : Vec} {al : Nat → Prop} (h : Step A m g q al bs r s) (hB : Bas A V M bs) (hm : m ≤ M) (hq : V q) (hf : ∀ i, i < m → 0 ≤ tt A bs i q) : ∀ i, i < m → 0 ≤ tt A (bs.set r s) i q := fun i hi => by
  have hr := h.row
  by_cases hir : i = r
  · subst hir; rw [hB.tt_r h.lev]; exact hf i hi
  · have h1 := hB.tt_i (by omega) (by omega) hir h.lev hq
    have hd := den_pos hB.ne
    have h3 := hf i hi
    have h4 := hf r hr
    have h5 := h.lev
    have key : 0 ≤ den A bs * tt A (bs.set r s) i q := by
      rw [h1]; by_cases h2 : 0 < tt A bs i (A s)
      · have := h.ratio i hi h2; have e : tt A bs r (A s) * tt A bs i q = tt A bs i q * tt A bs r (A s) := Int.mul_comm _ _; omega
      · have a1 : 0 ≤ tt A bs r (A s) * tt A bs i q := Int.mul_nonneg (by omega) h3; have a2 : tt A bs r q * tt A bs i (A s) ≤ 0 := Int.mul_nonpos_of_nonneg_of_nonpos h4 (by omega); omega
    rcases (show tt A (bs.set r s) i q < 0 ∨ 0 ≤ tt A (bs.set r s) i q by omega) with h6 | h6
    · have := Int.mul_neg_of_pos_of_neg hd h6; omega
    · exact h6
theorem divInt_le {a b c d : Int} (hb : 0 < b) (hd : 0 < d) : Rat.divInt a b ≤ Rat.divInt c d ↔ a * d ≤ c * b := by
  rw [Rat.le_iff_sub_nonneg, Rat.divInt_sub_divInt _ _ (by omega) (by omega), Rat.divInt_nonneg_iff_of_pos_right (Int.mul_pos hd hb)]; omega
def ob (A : Nat → Vec) (g : Nat) (q : Vec) (bs : List Nat) : Rat := Rat.divInt (tt A bs g q) (den A bs)
theorem Step.obj {m g r s : Nat} {q : Vec} {al : Nat → Prop} (h : Step A m g q al bs r s) (hB : Bas A V M bs) (hm : m ≤ g) (hg : g < M) (hq : V q) (hA : ∀ v, V (A v)) (hf : ∀ i, i < m → 0 ≤ tt A bs i q) :
    ob A g q bs ≤ ob A g q (bs.set r s) ∧ (ob A g q (bs.set r s) = ob A g q bs → tt A bs r q = 0) := by
  have hr := h.row; have hd := den_pos hB.ne; have hd' := den_pos (h.bas hB (by omega) hA).ne; have h1 := hB.tt_i (i := g) (by omega) hg (by omega) h.lev hq; have h2 := hB.den' h.lev; have h3 := h.ent; have h4 := hf r hr; unfold ob; rw [h2] at hd' ⊢; constructor
  · rw [divInt_le hd hd']; have a : tt A bs r q * tt A bs g (A s) ≤ 0 := Int.mul_nonpos_of_nonneg_of_nonpos h4 (by omega); have e1 : tt A (bs.set r s) g q * den A bs = den A bs * tt A (bs.set r s) g q := Int.mul_comm _ _; have e2 : tt A bs g q * tt A bs r (A s) = tt A bs r (A s) * tt A bs g q := Int.mul_comm _ _; omega
  · intro he; have he' := (Rat.divInt_eq_divInt_iff (by omega) (by omega)).1 he; have e1 : tt A (bs.set r s) g q * den A bs = den A bs * tt A (bs.set r s) g q := Int.mul_comm _ _; have e2 : tt A bs g q * tt A bs r (A s) = tt A bs r (A s) * tt A bs g q := Int.mul_comm _ _
    have e3 : tt A bs r q * tt A bs g (A s) = 0 := by omega
    rcases Int.mul_eq_zero.1 e3 with h5 | h5
    · exact h5
    · omega
theorem nat_hole : ∀ (n : Nat) (f : Nat → Nat), (∀ k, f k < n) → ∃ i j, i < j ∧ f i = f j
  | 0, f, h => absurd (h 0) (by omega)
  | n + 1, f, h => by
    by_cases h1 : ∃ a, f a = n
    · obtain ⟨a, ha⟩ := h1
      by_cases h2 : ∃ b, a < b ∧ f b = n
      · obtain ⟨b, hb, hb2⟩ := h2
        exact ⟨a, b, hb, by rw [ha, hb2]⟩
      · obtain ⟨i, j, hij, he⟩ := nat_hole n (fun k => f (a + 1 + k)) (fun k => by
          have := h (a + 1 + k)
          have : f (a + 1 + k) ≠ n := fun e => h2 ⟨a + 1 + k, by omega, e⟩
          omega)
        exact ⟨a + 1 + i, a + 1 + j, by omega, he⟩
    · exact nat_hole n f (fun k => by
        have := h k
        have : f k ≠ n := fun e => h1 ⟨k, e⟩
        omega)
def enc (N : Nat) : List Nat → Nat
  | [] => 0
  | d :: l => d + N * enc N l
theorem enc_lt {N : Nat} : ∀ {l : List Nat}, (∀ d ∈ l, d < N) → enc N l < N ^ l.length
  | [], _ => by simp [enc]
  | d :: l, h => by
    have h1 := h d (List.mem_cons_self ..)
    have h2 := enc_lt (l := l) fun d hd => h d (List.mem_cons_of_mem _ hd)
    simp only [enc, List.length_cons, Nat.pow_succ]
    have h3 : N * (enc N l + 1) ≤ N * N ^ l.length := Nat.mul_le_mul_left _ h2
    rw [Nat.mul_add, Nat.mul_one] at h3
    rw [Nat.mul_comm (N ^ l.length) N]
    omega
theorem enc_inj {N : Nat} : ∀ {l k : List Nat}, (∀ d ∈ l, d < N) → (∀ d ∈ k, d < N) → l.length = k.length → enc N l = enc N k → l = k
  | [], [], _, _, _, _ => rfl
  | d :: l, e :: k, h1, h2, hl, he => by
    have a1 := h1 d (List.mem_cons_self ..)
    have a2 := h2 e (List.mem_cons_self ..)
    simp only [enc] at he
    have m1 : (d + N * enc N l) % N = d := by rw [Nat.add_mul_mod_self_left, Nat.mod_eq_of_lt a1]
    have m2 : (e + N * enc N k) % N = e := by rw [Nat.add_mul_mod_self_left, Nat.mod_eq_of_lt a2]
    have hde : d = e := by rw [← m1, ← m2, he]
    subst hde
    have h3 : N * enc N l = N * enc N k := by omega
    rw [enc_inj (fun d hd => h1 d (List.mem_cons_of_mem _ hd)) (fun d hd => h2 d (List.mem_cons_of_mem _ hd)) (by simpa using hl) (Nat.eq_of_mul_eq_mul_left (by omega) h3)]
  | [], _ :: _, _, _, hl, _ => by simp at hl
  | _ :: _, [], _, _, hl, _ => by simp at hl
theorem list_hole {N M : Nat} (f : Nat → List Nat) (hl : ∀ k, (f k).length = M) (hN : ∀ k, ∀ d ∈ f k, d < N) : ∃ i j, i < j ∧ f i = f j := by
  obtain ⟨i, j, hij, he⟩ := nat_hole (N ^ M) (fun k => enc N (f k)) (fun k => by have := enc_lt (hN k); rwa [hl k] at this); exact ⟨i, j, hij, enc_inj (hN i) (hN j) (by rw [hl, hl]) he⟩
theorem exists_max (f : Nat → Nat) (a : Nat) : ∀ n, 0 < n → ∃ e, a ≤ e ∧ e < a + n ∧ ∀ k, a ≤ k → k < a + n → f k ≤ f e
  | 0, h => absurd h (by omega)
  | 1, _ => ⟨a, by omega, by omega, fun k h1 h2 => by
    have : k = a := by omega
    rw [this]; exact Nat.le_refl _⟩
  | n + 2, _ => by
    obtain ⟨e, h1, h2, h3⟩ := exists_max f a (n + 1) (by omega)
    by_cases h4 : f e ≤ f (a + n + 1)
    · refine ⟨a + n + 1, by omega, by omega, fun k hk1 hk2 => ?_⟩
      rcases Nat.lt_or_ge k (a + (n + 1)) with h5 | h5
      · exact Nat.le_trans (h3 k hk1 h5) h4
      · have : k = a + n + 1 := by omega
        rw [this]; exact Nat.le_refl _
    · refine ⟨e, h1, by omega, fun k hk1 hk2 => ?_⟩
      rcases Nat.lt_or_ge k (a + (n + 1)) with h5 | h5
      · exact h3 k hk1 h5
      · have : k = a + n + 1 := by omega
        rw [this]; omega
structure Run (A : Nat → Vec) (V : Vec → Prop) (M m g : Nat) (q : Vec) (al : Nat → Prop) (N : Nat) (B : Nat → List Nat) (r s : Nat → Nat) : Prop where
  bas : Bas A V M (B 0)
  feas : ∀ i, i < m → 0 ≤ tt A (B 0) i q
  hq : V q
  hA : ∀ v, V (A v)
  mg : m ≤ g
  gM : g < M
  step : ∀ k, Step A m g q al (B k) (r k) (s k)
  next : ∀ k, B (k + 1) = (B k).set (r k) (s k)
  few : ∀ d ∈ B 0, d < N
  alN : ∀ v, al v → v < N
section
variable {m g : Nat} {q : Vec} {al : Nat → Prop} {N : Nat} {B : Nat → List Nat} {r s : Nat → Nat}
theorem Run.basA (R : Run A V M m g q al N B r s) : ∀ k, Bas A V M (B k)
  | 0 => R.bas
  | k + 1 => by rw [R.next]; exact (R.step k).bas (R.basA k) (by have := R.mg; have := R.gM; omega) R.hA
theorem Run.feasA (R : Run A V M m g q al N B r s) : ∀ k, ∀ i, i < m → 0 ≤ tt A (B k) i q
  | 0 => R.feas
  | k + 1 => by rw [R.next]; exact (R.step k).feas (R.basA k) (by have := R.mg; have := R.gM; omega) R.hq (R.feasA k)
theorem Run.fewA (R : Run A V M m g q al N B r s) : ∀ k, ∀ d ∈ B k, d < N
  | 0 => R.few
  | k + 1 => fun d hd => by
    rw [R.next] at hd
    rcases List.mem_or_eq_of_mem_set hd with h | h
    · exact R.fewA k d h
    · rw [h]; exact R.alN _ (R.step k).alw
theorem Run.mono (R : Run A V M m g q al N B r s) (a : Nat) : ∀ n, ob A g q (B a) ≤ ob A g q (B (a + n))
  | 0 => Rat.le_refl
  | n + 1 => Rat.le_trans (R.mono a n) (by
    have := ((R.step (a + n)).obj (R.basA _) R.mg R.gM R.hq R.hA (R.feasA _)).1
    rw [← R.next] at this; exact this)
def In (M : Nat) (B : Nat → List Nat) (k v : Nat) : Prop := ∃ i, i < M ∧ (B k).getD i 0 = v
theorem Run.in_next (R : Run A V M m g q al N B r s) {k v : Nat} (h : In M B (k + 1) v) : In M B k v ∨ v = s k := by
  obtain ⟨i, hi, he⟩ := h; have hr := (R.step k).row; have hl := (R.basA k).len; rw [R.next, getD_set' (by have := R.mg; have := R.gM; omega)] at he; split at he
  · exact .inr he.symm
  · exact .inl ⟨i, hi, he⟩
theorem Run.in_stay (R : Run A V M m g q al N B r s) {k v : Nat} (h : In M B k v) (hn : (B k).getD (r k) 0 ≠ v) : In M B (k + 1) v := by
  obtain ⟨i, hi, he⟩ := h; have hr := (R.step k).row; have hl := (R.basA k).len; refine ⟨i, hi, ?_⟩; rw [R.next, getD_set' (by have := R.mg; have := R.gM; omega), if_neg (fun e => by rw [e] at hn; exact hn he)]; exact he
theorem Run.not_in (R : Run A V M m g q al N B r s) (k : Nat) : ¬ In M B k (s k) := fun ⟨i, hi, he⟩ => by
  have h1 := (R.step k).ent
  have hB := R.basA k
  rw [← he] at h1
  by_cases hig : i = g
  · subst hig; rw [tt_own hB.len hi] at h1; have := den_pos hB.ne; omega
  · rw [Yy hB.len R.gM hi hig] at h1; omega
theorem Run.new_in (R : Run A V M m g q al N B r s) (k : Nat) : In M B (k + 1) (s k) := by
  have hr := (R.step k).row; have := R.mg; have := R.gM; have hl := (R.basA k).len; exact ⟨r k, by omega, by rw [R.next, getD_set' (by omega), if_pos J]⟩
theorem Run.down (R : Run A V M m g q al N B r s) {k0 k1 v : Nat} (hn : ∀ k, k0 ≤ k → k < k1 → s k ≠ v) (a : Nat) (ha : k0 ≤ a) : ∀ n, a + n ≤ k1 → In M B (a + n) v → In M B a v
  | 0, _, h => h
  | n + 1, hle, h => by
    rcases R.in_next h with h1 | h1
    · exact R.down hn a ha n (by omega) h1
    · exact absurd h1.symm (hn (a + n) (by omega) (by omega))
theorem Run.up (R : Run A V M m g q al N B r s) {k0 k1 v : Nat} (hn : ∀ k, k0 ≤ k → k < k1 → (B k).getD (r k) 0 ≠ v) (a : Nat) (ha : k0 ≤ a) : ∀ n, a + n ≤ k1 → In M B a v → In M B (a + n) v
  | 0, _, h => h
  | n + 1, hle, h => R.in_stay (R.up hn a ha n (by omega) h) (hn (a + n) (by omega) (by omega))
theorem Run.goal (R : Run A V M m g q al N B r s) {j : Nat} (hj : m ≤ j) : ∀ k, (B k).getD j 0 = (B 0).getD j 0
  | 0 => rfl
  | k + 1 => by
    have hr := (R.step k).row
    have := R.mg
    have := R.gM
    have hl := (R.basA k).len
    rw [R.next, getD_set' (by omega), if_neg (by omega)]
    exact R.goal hj k
def Zr (A : Nat → Vec) (m : Nat) (q : Vec) (B : Nat → List Nat) (k v : Nat) : Prop := ∀ i, i < m → (B k).getD i 0 = v → tt A (B k) i q = 0
theorem Run.z_fwd (R : Run A V M m g q al N B r s) {k v : Nat} (hd : tt A (B k) (r k) q = 0) (h : Zr A m q B k v) : Zr A m q B (k + 1) v := fun i hi he => by
  have hr := (R.step k).row
  have := R.mg
  have := R.gM
  have hB := R.basA k
  have hl := hB.len
  rw [R.next] at he ⊢
  rw [getD_set' (by omega)] at he
  by_cases hir : r k = i
  · subst hir; rw [hB.tt_r (R.step k).lev]; exact hd
  · rw [if_neg hir] at he
    have h1 := hB.tt_i (by omega) (by omega) (Ne.symm hir) (R.step k).lev R.hq
    rw [h i hi he, hd, Int.mul_zero, Int.zero_mul, Int.sub_zero] at h1
    have := den_pos hB.ne
    rcases Int.mul_eq_zero.1 h1 with h2 | h2
    · omega
    · exact h2
theorem Run.z_bwd (R : Run A V M m g q al N B r s) {k v : Nat} (hd : tt A (B k) (r k) q = 0) (h : Zr A m q B (k + 1) v) : Zr A m q B k v := fun i hi he => by
  have hr := (R.step k).row
  have := R.mg
  have := R.gM
  have hB := R.basA k
  have hl := hB.len
  by_cases hir : r k = i
  · subst hir; exact hd
  · have h2 := h i hi (by rw [R.next, getD_set' (by omega), if_neg hir]; exact he)
    rw [R.next] at h2
    have h1 := hB.tt_i (by omega) (by omega) (Ne.symm hir) (R.step k).lev R.hq
    rw [h2, hd, Int.mul_zero, Int.zero_mul, Int.sub_zero] at h1
    have := (R.step k).lev
    rcases Int.mul_eq_zero.1 h1.symm with h3 | h3
    · omega
    · exact h3
theorem Run.z_all (R : Run A V M m g q al N B r s) {k0 k1 e : Nat} (hd : ∀ k, k0 ≤ k → k < k1 → tt A (B k) (r k) q = 0) (h1 : k0 ≤ e) (h2 : e < k1) : ∀ k, k0 ≤ k → k ≤ k1 → Zr A m q B k (s e) := by
  have h0 : Zr A m q B e (s e) := fun i hi he => absurd ⟨i, by have := R.mg; have := R.gM; omega, he⟩ (R.not_in e)
  have fwd : ∀ n, e + n ≤ k1 → Zr A m q B (e + n) (s e) := fun n => by
    induction n with
    | zero => intro _; exact h0
    | succ n ih => intro hn; exact R.z_fwd (hd (e + n) (by omega) (by omega)) (ih (by omega))
  have bwd : ∀ n, n ≤ e → k0 ≤ e - n → Zr A m q B (e - n) (s e) := fun n => by
    induction n with
    | zero => intro _ _; exact h0
    | succ n ih =>
      intro hn hk; have := ih (by omega) (by omega)
      have e1 : e - n = (e - (n + 1)) + 1 := by omega
      rw [e1] at this; exact R.z_bwd (hd _ hk (by omega)) this
  intro k hk1 hk2; rcases Nat.lt_or_ge k e with h3 | h3
  · have := bwd (e - k) (by omega) (by omega)
    rwa [show e - (e - k) = k by omega] at this
  · have := fwd (k - e) (by omega)
    rwa [show e + (k - e) = k by omega] at this
theorem Run.no (R : Run A V M m g q al N B r s) : False := by
  have hmg := R.mg; have hgM := R.gM; obtain ⟨k0, k1, hk, hB⟩ := list_hole B (fun k => (R.basA k).len) R.fewA
  have ob0 : ∀ k, k0 ≤ k → k ≤ k1 → ob A g q (B k) = ob A g q (B k0) := fun k h1 h2 => by
    have a1 := R.mono k0 (k - k0); have a2 := R.mono k (k1 - k); rw [show k0 + (k - k0) = k by omega] at a1; rw [show k + (k1 - k) = k1 by omega, ← hB] at a2; exact Rat.le_antisymm a2 a1
  have hd : ∀ k, k0 ≤ k → k < k1 → tt A (B k) (r k) q = 0 := fun k h1 h2 => by
    refine ((R.step k).obj (R.basA _) R.mg R.gM R.hq R.hA (R.feasA _)).2 ?_
    rw [← R.next, ob0 (k + 1) (by omega) (by omega), ob0 k (by omega) (by omega)]
  have fick : ∀ a b v, k0 ≤ a → a ≤ k1 → k0 ≤ b → b ≤ k1 → In M B a v → ¬ In M B b v → ∃ k, k0 ≤ k ∧ k < k1 ∧ s k = v := fun a b v ha1 ha2 hb1 hb2 hi hn => by
    refine Classical.byContradiction fun hno => ?_
    have hne : ∀ k, k0 ≤ k → k < k1 → s k ≠ v := fun k h1 h2 h3 => hno ⟨k, h1, h2, h3⟩
    have i0 := R.down hne k0 (Nat.le_refl _) (a - k0) (by omega) (by rw [show k0 + (a - k0) = a by omega]; exact hi)
    have i1 : In M B k1 v := by obtain ⟨i, h1, h2⟩ := i0; exact ⟨i, h1, by rw [← hB]; exact h2⟩
    exact hn (R.down hne b hb1 (k1 - b) (by omega) (by rw [show b + (k1 - b) = k1 by omega]; exact i1))
  obtain ⟨e, he1, he2, hmax⟩ := exists_max s k0 (k1 - k0) (by omega); rw [show k0 + (k1 - k0) = k1 by omega] at he2 hmax
  have hleave : ∃ d, k0 ≤ d ∧ d < k1 ∧ (B d).getD (r d) 0 = s e := by
    refine Classical.byContradiction fun hno => ?_
    have hne : ∀ k, k0 ≤ k → k < k1 → (B k).getD (r k) 0 ≠ s e := fun k h1 h2 h3 => hno ⟨k, h1, h2, h3⟩
    have i1 := R.up hne (e + 1) (by omega) (k1 - (e + 1)) (by omega) (R.new_in e); rw [show e + 1 + (k1 - (e + 1)) = k1 by omega] at i1
    have i0 : In M B k0 (s e) := by obtain ⟨i, h1, h2⟩ := i1; exact ⟨i, h1, by rw [hB]; exact h2⟩
    have i2 := R.up hne k0 (Nat.le_refl _) (e - k0) (by omega) i0; rw [show k0 + (e - k0) = e by omega] at i2; exact R.not_in e i2
  obtain ⟨d, hd1, hd2, hdl⟩ := hleave; have Sd := R.step d; have Se := R.step e; have Bd := R.basA d; have Be := R.basA e; have hrd := Sd.row
  have hsne : s d ≠ s e := fun h => R.not_in d ⟨r d, by omega, by rw [hdl, h]⟩
  have hslt : s d < s e := by have := hmax d hd1 hd2; omega
  have two := Bd.tt_two Be hgM (R.hA (s d)); have lhs := Se.least (s d) hslt Sd.alw; have dd := den_pos Bd.ne; have de := den_pos Be.ne; rw [sm_split hgM] at two
  have hg0 : tt A (B e) g (A ((B d).getD g 0)) = den A (B e) := by
    rw [R.goal hmg d, ← R.goal hmg e]; exact tt_own Be.len hgM
  rw [hg0] at two; have t1 := Int.mul_neg_of_neg_of_pos Sd.ent de; have t2 := Int.mul_nonneg (Int.le_of_lt dd) lhs; obtain ⟨k, hkM, hkp⟩ := sm_pos (f := fun k => if k = g then 0 else tt A (B d) k (A (s d)) * tt A (B e) g (A ((B d).getD k 0))) (n := M) (by omega); by_cases hkg : k = g
  · rw [if_pos hkg] at hkp; omega
  rw [if_neg hkg] at hkp
  have hfac : tt A (B e) g (A ((B d).getD k 0)) ≠ 0 := fun h => by rw [h, Int.mul_zero] at hkp; omega
  have hnin : ¬ In M B e ((B d).getD k 0) := fun ⟨i, hi, hie⟩ => by
    by_cases hig : i = g
    · subst hig; have h1 := R.goal hmg e; rw [R.goal hmg e, ← R.goal hmg d] at hie; exact Bd.ne (Yh (i := i) (k := k) (by rw [Bd.len]; omega) (by rw [Bd.len]; omega) hkg hie)
    · rw [← hie] at hfac; exact hfac (Yy Be.len hgM hi hig)
  have hin : In M B d ((B d).getD k 0) := ⟨k, hkM, rfl⟩
  have hkm : k < m := by
    rcases Nat.lt_or_ge k m with h | h
    · exact h
    · exact absurd ⟨k, hkM, by rw [R.goal h e, ← R.goal h d]⟩ hnin
  obtain ⟨f, hf1, hf2, hf3⟩ := fick d e _ hd1 (by omega) he1 (by omega) hin hnin; have hfle := hmax f hf1 hf2; rw [hf3] at hfle; have hZ := R.z_all hd hf1 hf2 d hd1 (by omega) k hkm hf3.symm
  have halw : al ((B d).getD k 0) := by rw [← hf3]; exact (R.step f).alw
  by_cases hkt : (B d).getD k 0 = s e
  · have hkr : k = r d := Classical.byContradiction fun h => Bd.ne (Yh (i := r d) (k := k) (by rw [Bd.len]; omega) (by rw [Bd.len]; omega) h (by rw [hdl, hkt]))
    rw [hkt, hkr] at hkp; have := Int.mul_neg_of_pos_of_neg Sd.lev Se.ent; omega
  · have h1 := Se.least _ (by omega) halw
    have h2 : 0 < tt A (B e) g (A ((B d).getD k 0)) := by omega
    have h3 : 0 < tt A (B d) k (A (s d)) := by
      rcases (show 0 < tt A (B d) k (A (s d)) ∨ tt A (B d) k (A (s d)) ≤ 0 by omega) with h | h
      · exact h
      · have := Int.mul_nonpos_of_nonpos_of_nonneg h h1; omega
    have h4 := Sd.tie k hkm h3 (by rw [hd d hd1 hd2, hZ, Int.zero_mul, Int.zero_mul]); rw [hdl] at h4; omega
end
end Go.Det
namespace Go.Det
variable {A : Nat → Vec} {V : Vec → Prop} {M : Nat} {bs : List Nat}
theorem Bas.gen {r s i : Nat} (h : Bas A V M bs) (hr : r < M) (hi : i < M) (hir : i ≠ r) {x : Vec} (hx : V x) :
    den A bs * ((dD A bs).sign * dT A (bs.set r s) i x) = tt A bs r (A s) * tt A bs i x - tt A bs r x * tt A bs i (A s) := by
  have h1 := h.piv_i (s := s) hr hi hir hx; have h2 := sgn_sq h.ne; unfold tt den; generalize (dD A bs).sign = σ at *
  grind
theorem sign_neg {d p : Int} (h : d ≠ 0) (hp : d.sign * p < 0) : p.sign = - d.sign := by
  rcases Int.lt_or_gt_of_ne h with h | h
  · rw [Int.sign_eq_neg_one_of_neg h] at hp ⊢; exact Int.sign_eq_one_of_pos (by omega)
  · rw [Int.sign_eq_one_of_pos h] at hp ⊢; exact Int.sign_eq_neg_one_of_neg (by omega)
theorem Bas.gsgn {r s : Nat} (h : Bas A V M bs) (hp : tt A bs r (A s) ≠ 0) : (dD A (bs.set r s)).sign = (dD A bs).sign ∧ 0 < tt A bs r (A s) ∨ (dD A (bs.set r s)).sign = -(dD A bs).sign ∧ tt A bs r (A s) < 0 := by
  rcases Int.lt_or_gt_of_ne hp with h1 | h1
  · exact .inr ⟨by rw [piv_D]; exact sign_neg h.ne h1, h1⟩
  · exact .inl ⟨by rw [piv_D]; exact sign_of_mul h.ne h1, h1⟩
theorem Bas.gne {r s : Nat} (h : Bas A V M bs) (hp : tt A bs r (A s) ≠ 0) : dT A bs r (A s) ≠ 0 := fun e => by unfold tt at hp; rw [e] at hp; simp at hp
end Go.Det
namespace Go.Proofs.YtdhmbgogmoaofaaGreat
open Go.Own Go.Limbs Go.Det
structure View (A : Nat → Vec) (V : Vec → Prop) (M m : Nat) (q : Vec) (T : Tv) (bs : List Nat) : Prop where
  bas : Bas A V M bs
  den : T.den = Go.Det.den A bs
  num : ∀ i, i < T.rows.length → ∀ j, j < T.col.length → T.at i j = tt A bs i (A (T.col.getD j 0).toNat)
  rhs : ∀ i, i < T.rows.length → T.at i T.col.length = tt A bs i q
  basl : T.bas.length = m
  basv : ∀ i, i < m → T.bas.getD i 0 = (bs.getD i 0 : Nat)
  colv : ∀ j, 0 ≤ T.col.getD j 0
  row : ∀ i, i < T.rows.length → (T.rows.getD i []).length = T.col.length + 1
  rm : m ≤ T.rows.length
  rM : T.rows.length ≤ M
theorem at_neg {rows : List (List Int)} {i j : Nat} : ((rows.map negL).getD i []).getD j 0 = -((rows.getD i []).getD j 0) := by
  simp only [List.getD_eq_getElem?_getD, List.getElem?_map]
  cases h : rows[i]? with
  | none => simp
  | some l =>
    simp only [Option.map_some, Option.getD_some, negL, List.getElem?_map]
    cases h2 : l[j]? with
    | none => simp
    | some x => simp
theorem pvt_raw {T : Tv} {r s i j : Nat} (hi : i < T.rows.length) (hr : r < T.rows.length) (hrow : (T.rows.getD i []).length = T.col.length + 1) (hs : s < T.col.length + 1) (hj : j < T.col.length + 1) :
    (((pvRows T r s T.rows.length).set r ((T.rows.getD r []).set s T.den)).getD i []).getD j 0 =
      if i = r then (if j = s then T.den else T.at r j) else if j = s then -(T.at i s) else (T.at i j * T.at r s + -(T.at r j * T.at i s)).tdiv T.den := by
  by_cases hir : i = r
  · subst hir; rw [Z2 (by rw [Yn]; exact hi), if_pos J, if_pos J]; rw [Z2 (by omega)]; by_cases hjs : j = s
    · subst hjs; simp
    · rw [if_neg (Ne.symm hjs), if_neg hjs]
  · rw [Z2 (by rw [Yn]; exact hr), if_neg (Ne.symm hir), if_neg hir]; unfold pvRows; rw [Zb _ _ _ hi, if_pos ⟨hi, hir⟩]; unfold pvRow; rw [Zb _ _ _ (by omega)]; unfold pvZ; by_cases hjs : j = s
    · rw [if_pos hjs]
    · rw [if_neg hjs]
theorem pvt_at {T : Tv} {r s i j : Nat} (hi : i < T.rows.length) (hr : r < T.rows.length) (hrow : (T.rows.getD i []).length = T.col.length + 1) (hs : s < T.col.length + 1) (hj : j < T.col.length + 1) :
    (pvt T r s).at i j = (if T.at r s < 0 then -1 else 1) * (if i = r then (if j = s then T.den else T.at r j) else if j = s then -(T.at i s) else (T.at i j * T.at r s + -(T.at r j * T.at i s)).tdiv T.den) := by
  have h := pvt_raw hi hr hrow hs hj; unfold Tv.at pvt; by_cases hp : T.at r s < 0
  · simp only [if_pos hp]; rw [at_neg, h]; unfold Tv.at; grind
  · simp only [if_neg hp]; rw [h]; unfold Tv.at; grind
theorem set_getDI {l : List Int} {i j : Nat} {x : Int} (h : i < l.length) : (l.set i x).getD j 0 = if i = j then x else l.getD j 0 := Z2 h
theorem pvt_rowlen {T : Tv} {r s i : Nat} (hi : i < T.rows.length) (hr : r < T.rows.length) : ((pvt T r s).rows.getD i []).length = (T.rows.getD i []).length := by
  have key : (((pvRows T r s T.rows.length).set r ((T.rows.getD r []).set s T.den)).getD i []).length = (T.rows.getD i []).length := by
    by_cases hir : i = r
    · subst hir; rw [Z2 (by rw [Yn]; exact hi), if_pos rfl, List.length_set]
    · rw [Z2 (by rw [Yn]; exact hr), if_neg (Ne.symm hir)]; unfold pvRows; rw [Zb _ _ _ hi, if_pos ⟨hi, hir⟩, pvRow_len]
  unfold pvt; by_cases hp : T.at r s < 0
  · simp only [if_pos hp]; rw [← key]; simp only [List.getD_eq_getElem?_getD, List.getElem?_map]
    cases (((pvRows T r s T.rows.length).set r ((T.rows[r]?.getD []).set s T.den))[i]?) with
    | none => simp
    | some l => simp [negL]
  · simp only [if_neg hp]; exact key
theorem View.pvt {A : Nat → Vec} {V : Vec → Prop} {M m : Nat} {q : Vec} {T : Tv} {bs : List Nat} (h : View A V M m q T bs) (hq : V q) (hA : ∀ v, V (A v)) {r s : Nat} (hr : r < m) (hs : s < T.col.length) (hp : T.at r s ≠ 0) :
    View A V M m q (pvt T r s) (bs.set r (T.col.getD s 0).toNat) := by
  have hrl : r < T.rows.length := by have := h.rm; omega
  have hrM : r < M := by have := h.rM; omega
  have hlen := h.bas.len; have ep := h.num r hrl s hs
  have hne : tt A bs r (A (T.col.getD s 0).toNat) ≠ 0 := by rw [← ep]; exact hp
  have hB := h.bas.piv hrM (hA (T.col.getD s 0).toNat) (h.bas.gne hne); have hsg := h.bas.gsgn hne; have hd := den_pos h.bas.ne; rw [← ep] at hsg
  have one : ∀ i, i < T.rows.length → ∀ x, V x → ∀ j, j < T.col.length + 1 → j ≠ s → T.at i j = tt A bs i x → T.at r j = tt A bs r x → (Go.Proofs.YtdhmbgogmoaofaaGreat.pvt T r s).at i j = tt A (bs.set r (T.col.getD s 0).toNat) i x := by
    intro i hi x hx j hj hjs e1 e2; rw [pvt_at hi hrl (h.row i hi) (by omega) hj]; by_cases hir : i = r
    · subst hir; rw [if_pos J, if_neg hjs, e2]; unfold tt; rw [piv_r]; rcases hsg with ⟨h1, h2⟩ | ⟨h1, h2⟩
      · rw [if_neg (by omega), h1, Int.one_mul]
      · rw [if_pos h2, h1, Int.neg_mul, Int.neg_mul, Int.one_mul]
    · rw [if_neg hir, if_neg hjs]; have hg := h.bas.gen (s := (T.col.getD s 0).toNat) hrM (by have := h.rM; omega) hir hx; rw [e1, e2, ep, h.num i hi s hs, h.den]
      have e3 : tt A bs i x * tt A bs r (A (T.col.getD s 0).toNat) + -(tt A bs r x * tt A bs i (A (T.col.getD s 0).toNat)) = Go.Det.den A bs * ((dD A bs).sign * dT A (bs.set r (T.col.getD s 0).toNat) i x) := by rw [hg, Int.mul_comm (tt A bs i x)]; omega
      rw [e3, Int.mul_tdiv_cancel_left _ (by omega)]; unfold tt; rw [ep] at hsg; unfold tt at hsg; rcases hsg with ⟨h1, h2⟩ | ⟨h1, h2⟩
      · rw [if_neg (by omega), h1, Int.one_mul]
      · rw [if_pos h2, h1, Int.neg_mul, Int.neg_mul, Int.one_mul]
  have two : ∀ i, i < T.rows.length → (Go.Proofs.YtdhmbgogmoaofaaGreat.pvt T r s).at i s = tt A (bs.set r (T.col.getD s 0).toNat) i (A (bs.getD r 0)) := by
    intro i hi; rw [pvt_at hi hrl (h.row i hi) (by omega) (by omega), if_pos J, if_pos J]; unfold tt; by_cases hir : i = r
    · subst hir; rw [if_pos J, piv_r, dT_own (by omega), h.den]; unfold Go.Det.den; rcases hsg with ⟨h1, h2⟩ | ⟨h1, h2⟩
      · rw [if_neg (by omega), h1, Int.one_mul]
      · rw [if_pos h2, h1, Int.neg_mul, Int.neg_mul, Int.one_mul]
    · rw [if_neg hir, piv_l (by omega) (by have := h.rM; omega) hir, h.num i hi s hs]; unfold tt; rcases hsg with ⟨h1, h2⟩ | ⟨h1, h2⟩
      · rw [if_neg (by omega), h1, Int.one_mul, Int.mul_neg]
      · rw [if_pos h2, h1]; grind
  refine ⟨hB, ?_, fun i hi j hj => ?_, fun i hi => ?_, by rw [pvt_bas]; exact h.basl, fun i hi => ?_, fun j => ?_, fun i hi => ?_, by rw [Zq]; exact h.rm, by rw [Zq]; exact h.rM⟩
  · show (if T.at r s < 0 then -(T.at r s) else T.at r s) = _; unfold Go.Det.den; rw [piv_D] at hsg ⊢; rw [ep] at hsg ⊢; unfold tt at hsg ⊢; rcases hsg with ⟨h1, h2⟩ | ⟨h1, h2⟩
    · rw [if_neg (by omega), h1]
    · rw [if_pos h2, h1, Int.neg_mul]
  · rw [Zq] at hi; rw [Ze] at hj; show _ = tt A _ i (A ((T.col.set s (T.bas.getD r 0)).getD j 0).toNat); rw [set_getDI hs]; by_cases hjs : s = j
    · subst hjs; rw [if_pos J, h.basv r hr, Int.toNat_natCast]; exact two i hi
    · rw [if_neg hjs]; exact one i hi _ (hA _) j (by omega) (Ne.symm hjs) (h.num i hi j hj) (h.num r hrl j hj)
  · rw [Zq] at hi; rw [Ze]; exact one i hi q hq T.col.length (by omega) (by omega) (h.rhs i hi) (h.rhs r hrl)
  · show (T.bas.set r (T.col.getD s 0)).getD i 0 = _; rw [set_getDI (by rw [h.basl]; exact hr), getD_set' (by omega)]; by_cases hir : r = i
    · rw [if_pos hir, if_pos hir]; have := h.colv s; omega
    · rw [if_neg hir, if_neg hir]; exact h.basv i hi
  · show 0 ≤ (T.col.set s (T.bas.getD r 0)).getD j 0; rw [set_getDI hs]; split
    · rw [h.basv r hr]; omega
    · exact h.colv j
  · rw [Zq] at hi; rw [pvt_rowlen hi hrl, Ze]; exact h.row i hi
theorem entS_none {gr col : List Int} : ∀ {j : Nat}, entS gr col j < 0 → ∀ k, k < j → 0 ≤ gr.getD k 0
  | 0, _, k, hk => by omega
  | j + 1, h, k, hk => by
    simp only [entS] at h
    by_cases hc : gr.getD j 0 < 0 ∧ (entS gr col j < 0 ∨ col.getD j 0 < col.getD (entS gr col j).toNat 0)
    · rw [if_pos hc] at h; omega
    · rw [if_neg hc] at h
      by_cases hkj : k = j
      · subst hkj
        by_cases h5 : gr.getD k 0 < 0
        · exact absurd ⟨h5, .inl h⟩ hc
        · omega
      · exact entS_none h k (by omega)
theorem entS_hit {gr col : List Int} : ∀ {j : Nat}, 0 ≤ entS gr col j → gr.getD (entS gr col j).toNat 0 < 0 ∧ ∀ k, k < j → gr.getD k 0 < 0 → col.getD (entS gr col j).toNat 0 ≤ col.getD k 0
  | 0, h => by simp [entS] at h
  | j + 1, h => by
    simp only [entS] at h ⊢
    by_cases hc : gr.getD j 0 < 0 ∧ (entS gr col j < 0 ∨ col.getD j 0 < col.getD (entS gr col j).toNat 0)
    · rw [if_pos hc, Int.toNat_natCast]
      refine ⟨hc.1, fun k hk hk2 => ?_⟩
      by_cases hkj : k = j
      · subst hkj; exact Int.le_refl _
      · rcases hc.2 with h2 | h2
        · exact absurd hk2 (by have := (entS_none (gr := gr) (col := col) h2) k (by omega); omega)
        · by_cases h3 : 0 ≤ entS gr col j
          · have := (entS_hit h3).2 k (by omega) hk2; omega
          · exact absurd hk2 (by have := (entS_none (gr := gr) (col := col) (j := j) (by omega)) k (by omega); omega)
    · rw [if_neg hc] at h ⊢
      have ih := entS_hit h
      refine ⟨ih.1, fun k hk hk2 => ?_⟩
      by_cases hkj : k = j
      · subst hkj
        have : ¬ (col.getD k 0 < col.getD (entS gr col k).toNat 0) := fun h4 => hc ⟨hk2, .inr h4⟩
        omega
      · exact ih.2 k (by omega) hk2
theorem levS_none {T : Tv} {s : Nat} : ∀ {j : Nat}, levS T s j < 0 → ∀ k, k < j → T.at k s ≤ 0
  | 0, _, k, hk => by omega
  | j + 1, h, k, hk => by
    simp only [levS] at h
    by_cases h1 : T.at j s ≤ 0
    · rw [if_pos h1] at h
      by_cases hkj : k = j
      · subst hkj; exact h1
      · exact levS_none h k (by omega)
    · rw [if_neg h1] at h
      split at h
      · omega
      · split at h
        · omega
        · rename_i h2 _; exact absurd h h2
theorem ratio_trans {a b c d e f : Int} (hd : 0 < d) (hb : 0 < b) (hf : 0 < f) (h1 : a * d ≤ c * b) (h2 : c * f ≤ e * d) : a * f ≤ e * b ∧ (a * f = e * b → a * d = c * b ∧ c * f = e * d) := by
  have e1 : a * d * f ≤ c * b * f := Int.mul_le_mul_of_nonneg_right h1 (by omega); have e2 : c * f * b ≤ e * d * b := Int.mul_le_mul_of_nonneg_right h2 (by omega)
  have e3 : (a * f) * d ≤ (e * b) * d := by grind
  constructor
  · exact Int.le_of_mul_le_mul_right e3 hd
  · intro h3
    have e4 : a * f * d = e * b * d := by rw [h3]
    have q1 : a * d * f = a * f * d := by grind
    have q2 : c * b * f = c * f * b := by grind
    have q3 : e * d * b = e * b * d := by grind
    constructor
    · have : a * d * f = c * b * f := by omega
      exact Int.eq_of_mul_eq_mul_right (by omega) this
    · have : c * f * b = e * d * b := by omega
      exact Int.eq_of_mul_eq_mul_right (by omega) this
theorem levS_hit {T : Tv} {s : Nat} : ∀ {j : Nat}, 0 ≤ levS T s j → 0 < T.at (levS T s j).toNat s ∧ ∀ k, k < j → 0 < T.at k s →
    T.at (levS T s j).toNat T.col.length * T.at k s ≤ T.at k T.col.length * T.at (levS T s j).toNat s ∧ (T.at (levS T s j).toNat T.col.length * T.at k s = T.at k T.col.length * T.at (levS T s j).toNat s → T.bas.getD (levS T s j).toNat 0 ≤ T.bas.getD k 0)
  | 0, h => by simp [levS] at h
  | j + 1, h => by
    simp only [levS] at h ⊢
    by_cases h1 : T.at j s ≤ 0
    · rw [if_pos h1] at h ⊢
      have ih := levS_hit h
      refine ⟨ih.1, fun k hk hk2 => ?_⟩
      by_cases hkj : k = j
      · subst hkj; omega
      · exact ih.2 k (by omega) hk2
    · rw [if_neg h1] at h ⊢
      by_cases h2 : levS T s j < 0
      · rw [if_pos h2, Int.toNat_natCast]
        refine ⟨by omega, fun k hk hk2 => ?_⟩
        by_cases hkj : k = j
        · subst hkj; exact ⟨Int.le_refl _, fun _ => Int.le_refl _⟩
        · have := levS_none h2 k (by omega); omega
      · rw [if_neg h2] at h ⊢
        have ih := levS_hit (T := T) (s := s) (j := j) (by omega)
        generalize (levS T s j) = l at *
        by_cases h3 : T.at j T.col.length * T.at l.toNat s + -(T.at l.toNat T.col.length * T.at j s) < 0 ∨ (T.at j T.col.length * T.at l.toNat s + -(T.at l.toNat T.col.length * T.at j s) = 0 ∧ T.bas.getD j 0 < T.bas.getD l.toNat 0)
        · rw [if_pos h3, Int.toNat_natCast]
          refine ⟨by omega, fun k hk hk2 => ?_⟩
          by_cases hkj : k = j
          · subst hkj; exact ⟨Int.le_refl _, fun _ => Int.le_refl _⟩
          · have i2 := ih.2 k (by omega) hk2
            have r := ratio_trans ih.1 (show 0 < T.at j s by omega) hk2 (a := T.at j T.col.length) (c := T.at l.toNat T.col.length) (e := T.at k T.col.length) (by omega) i2.1
            refine ⟨r.1, fun he => ?_⟩
            have r2 := r.2 he
            have := i2.2 r2.2
            rcases h3 with h3 | h3
            · omega
            · omega
        · rw [if_neg h3]
          refine ⟨ih.1, fun k hk hk2 => ?_⟩
          by_cases hkj : k = j
          · subst hkj
            refine ⟨by omega, fun he => ?_⟩
            have : ¬ (T.bas.getD k 0 < T.bas.getD l.toNat 0) := fun h5 => h3 (.inr ⟨by omega, h5⟩)
            omega
          · exact ih.2 k (by omega) hk2
end Go.Proofs.YtdhmbgogmoaofaaGreat
