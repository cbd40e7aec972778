/- The proof that LossSteps holds for every input, without conditions: part 6 of 6. -/
import Derived.Test.YtlkdkbdgnjcopaaGreatZ5
import Derived.ProofKit
import Derived.OpenShut
import Derived.ShutString
import Derived.ChangeOld
import Derived.DataElems
import Derived.SizedLaws
import Derived.Test.YtlkdkbdgnjcopaaGreatRows
namespace Go.Proofs.YtlkdkbdgnjcopaaGreat
open Go.Own Go.Limbs
attribute [local irreducible] Go.Own.Fin Ok OkB OkF OkL OkM OkN OkT Ops St
def dA : List (Int × Int) := [(2, 1), (2, 1), (2, 1), (2, 0), (2, 0), (2, 0), (2, 0), (2, 0), (2, 0), (2, 0), (1, 0)]
theorem dA_low : ∀ i, i < 3 → dA.getD i (0, 0) = (2, 1) := by decide
theorem dA_mid : ∀ i, i < 10 → 2 < i → dA.getD i (0, 0) = (2, 0) := by decide
theorem dA_cnt : cntF (xF 5 0 dA) (wk 2) 1 = (⟨wk 2, 10, 2, 3⟩, 0) := by
  rw [xF_cnt (n := 2) (by decide) (by decide) (by decide) (by decide) (fun t h1 h2 => ?_) (by decide) (by decide) (by decide) (by decide)]
  · decide
  · have : t = 1 ∨ t = 2 := by omega
    rcases this with h | h <;> subst h <;> decide
theorem q2n : (ofQ (Rat.divInt 2 10)).num = 1 := by kernel_rfl
theorem q2d : (ofQ (Rat.divInt 2 10)).den = 5 := by kernel_rfl
theorem q3n : (ofQ (Rat.divInt 3 10)).num = 3 := by kernel_rfl
theorem q3d : (ofQ (Rat.divInt 3 10)).den = 10 := by kernel_rfl
theorem eq_low : eqFr (ofQ (Rat.divInt 2 10)) (ofQ (Rat.divInt 3 10)) = false := decide_eq_false fun h => by
  have h := h.2.1
  rw [q2n, q3n, Zb (by decide) (by decide), Zb (by decide) (by decide)] at h
  exact absurd h (by decide)
theorem goawake : InGo Tryz.prog 9 := InGo.of Tryz.func9 rfl (by decide)
set_option maxHeartbeats 8000000 in
theorem awake_ok : Ok Tryz.prog 9 [] (boolC true) := by
  have hC := Count_ok (xF 5 0 dA) (by rw [xF_len]; decide) (wk 2) 1; rw [dA_cnt] at hC; have hR := Rate_ok ⟨wk 2, 10, 2, 3⟩ (by decide) (by decide) (by decide); rw [show rateC ⟨wk 2, 10, 2, 3⟩ = .fr (tupT [ratC (Rat.divInt 2 10), ratC (Rat.divInt 3 10), intC 0]) from if_neg (by decide)] at hR; have hF := rFrom_ok 3 10 (by decide) (by decide) (by decide) (by decide) (by decide)
  have b1 : (limbs (ofQ (Rat.divInt 2 10)).num).length ≤ 1000 ∧ (limbs (ofQ (Rat.divInt 2 10)).den).length ≤ 1000 ∧ (limbs (ofQ (Rat.divInt 3 10)).num).length ≤ 1000 ∧ (limbs (ofQ (Rat.divInt 3 10)).den).length ≤ 1000 := by
    rw [q2n, q2d, q3n, q3d, Zb (by decide) (by decide), Zb (by decide) (by decide), Zb (by decide) (by decide), Zb (by decide) (by decide)]; decide
  have hE1 := Equal_ok (ofQ (Rat.divInt 3 10)) (ofQ (Rat.divInt 3 10)) b1.2.2.1 b1.2.2.2 b1.2.2.1 b1.2.2.2; rw [eqFr_self] at hE1; have hE2 := Equal_ok (ofQ (Rat.divInt 2 10)) (ofQ (Rat.divInt 3 10)) b1.1 b1.2.1 b1.2.2.1 b1.2.2.2; rw [eq_low] at hE2
  refine Ok.enter Tryz.func9 J _ Tryz.ntmps9 J ?_
  intro S w0; refine Qw (Qx fun K hK => ?_); refine Qv J J J (Qj (hK _ _ (Qz (Qw ?_)))); clear hK K; refine Qx (fun K hK => ?_); refine Qv J J J (Qj (hK _ _ (Qz (Qw (Qw ?_))))); clear hK K; refine Qx (fun K hK => ?_); refine Qv J J J (Qj (hK _ _ (Qz (Q5 ?_)))); clear hK K; refine Xg 1 0 35 17 J J J (Xx (α := Nat) (fun i => i ≤ 11) (fun i => [(1, .own 0), (2, .ct (intC i))]) (fun i => [(0, .row 35 17 (rss (xF 5 0 (dA.take i))))]) (fun i => 11 - i) 0 (Nat.zero_le _) (by exact QX J ⟨rfl, rfl, trivial⟩) ?_); intro i hi
  try dsimp only at hi ⊢
  refine Qw (Qw (Qx fun K hK => ?_)); refine Qq J J J (Qk ilss J J J J (Qj (hK _ _ (Qz ?_)))); clear hK K; refine Q2 J (fun h => ?_) (fun h => ?_)
  · have hx := take_snoc (z := ((0, 0) : Int × Int)) (l := dA) (i := i) (by show i < 11; omega)
    have hlen2 : (dA.take i).length = i := by rw [List.length_take]; show min i 11 = i; omega
    have hlen : (xF 5 0 (dA.take i)).length = i := by rw [xF_len, hlen2]
    refine Q1 (Qz (Qw (Q5 (Qw (Qx fun K hK => ?_))))); refine Qq J J J (Qq J J J (Qk (imul (by omega) (by omega)) J J J J ?_)); refine Qq J J J (Qk (imul (by omega) (by omega)) J J J J ?_)
    refine Qk (iadd (by omega) (by omega)) J J J J ?_
    refine Qi J bRes J (.one J J J J (.one J J J J (.one J J J J (.one J J J J (.one J J J J (.one J J J J .nil)))))) J (Qg 1 J J zvRes J J J (Qa 17 J J J J J Z4 J J (Qj (hK _ _ (Qz (Qw (Qw ?_))))))); clear hK K; refine Qx (fun K hK => ?_); refine Qq J J J (Qk ieql J J J J (Qj (hK _ _ (Qz ?_)))); clear hK K; refine Q2 J (fun g => ?_) (fun g => ?_)
    · have hi10 : i = 10 := by omega
      subst hi10; have HD : dA.getD 10 (0, 0) = (1, 0) := rfl; refine Qx (fun K hK => ?_); refine QV J J J fS7 J (XY J J J J J zInt (Nat.le_of_ble_eq_true J) (Qj (hK _ _ (Qz (Qw (Qw ?_)))))); clear hK K; refine Qx (fun K hK => ?_); refine Qq J J J (Qk igtr J J J J (Qj (hK _ _ (Qz (Qp J ?_))))); clear hK K; refine Qx (fun K hK => ?_); refine QV J J J fS7 J (QY J J J J J lInt J (Xe (q := 1) J J uInt uAddr (by decide) J ?_)); refine Qi J bAns J (.one J J J J (.one J J J J .nil)) J (QV J J J fS8 J (XY J J J J J zBool1 (Nat.le_of_ble_eq_true J) (QV J J J fS11 J (Ops.stNA J J J J J (by exact szAns) (Nat.le_of_ble_eq_true J) ?_)))); refine Qj (hK _ _ (Qz ?_)); clear hK K; refine Qx (fun K hK => ?_); refine Qq J J J (Q6 (n := 17) J J J J J lRes J (X6 (n := 17) J J sRes J J (by decide) J ?_))
      refine Qt 10 (rss (xF 5 0 (dA.take (10 + 1)))) J J J J sRes (by rw [rss_len, hlen]) J (by omega) (by omega) (by rw [hx, xF_snoc, Z9, hlen2, HD, Int.zero_add]; rfl) J ?_
      refine Qv J J J (Qj (hK _ _ (Qz ?_))); clear hK K; refine Qx (fun K hK => ?_); refine Qq J J J (Qk (iadd (by omega) (by omega)) J J J J ?_); refine Qv J J J (Qj (hK _ _ (Q4 ?_))); clear hK K; refine Ql 1 (Q8 (10 + 1) (by omega) (by omega) (by exact QX J ⟨rfl, by simp only [Int.natCast_add]; rfl, trivial⟩))
    refine Q1 (Qz (Qw (Qw (Qx fun K hK => ?_)))); refine Qq J J J (Qk igtr J J J J (Qj (hK _ _ (Qz ?_)))); clear hK K; refine Q2 J (fun g2 => ?_) (fun g2 => ?_)
    · have HD := dA_mid i (by omega) (by omega); refine Qx (fun K hK => ?_); refine QV J J J fS7 J (QY J J J J J lInt J (Xe (q := 2) J J uInt uAddr (by decide) J ?_)); refine Qi J bAns J (.one J J J J (.one J J J J .nil)) J (QV J J J fS8 J (XY J J J J J zBool1 (Nat.le_of_ble_eq_true J) (QV J J J fS11 J (Ops.stNA J J J J J (by exact szAns) (Nat.le_of_ble_eq_true J) ?_)))); refine Qj (hK _ _ (Qz ?_)); clear hK K; refine Qx (fun K hK => ?_); refine Qq J J J (Q6 (n := 17) J J J J J lRes J (X6 (n := 17) J J sRes J J (by decide) J ?_))
      refine Qt i (rss (xF 5 0 (dA.take (i + 1)))) J J J J sRes (by rw [rss_len, hlen]) J (by omega) (by omega) (by rw [hx, xF_snoc, Z9, hlen2, HD, Int.zero_add]; rfl) J ?_
      refine Qv J J J (Qj (hK _ _ (Qz ?_))); clear hK K; refine Qx (fun K hK => ?_); refine Qq J J J (Qk (iadd (by omega) (by omega)) J J J J ?_); refine Qv J J J (Qj (hK _ _ (Q4 ?_))); clear hK K; refine Ql 1 (Q8 (i + 1) (by omega) (by omega) (by exact QX J ⟨rfl, by simp only [Int.natCast_add]; rfl, trivial⟩))
    · have HD := dA_low i (by omega); refine Q1 (Qz (Qx fun K hK => ?_)); refine Qq J J J (Q6 (n := 17) J J J J J lRes J (X6 (n := 17) J J sRes J J (by decide) J ?_))
      refine Qt i (rss (xF 5 0 (dA.take (i + 1)))) J J J J sRes (by rw [rss_len, hlen]) J (by omega) (by omega) (by rw [hx, xF_snoc, Z9, hlen2, HD, Int.zero_add]; rfl) J ?_
      refine Qv J J J (Qj (hK _ _ (Qz ?_))); clear hK K; refine Qx (fun K hK => ?_); refine Qq J J J (Qk (iadd (by omega) (by omega)) J J J J ?_); refine Qv J J J (Qj (hK _ _ (Q4 ?_))); clear hK K; refine Ql 1 (Q8 (i + 1) (by omega) (by omega) (by exact QX J ⟨rfl, by simp only [Int.natCast_add]; rfl, trivial⟩))
  · have hi' : i = 11 := by omega
    subst hi'; rw [show List.take 11 dA = dA from rfl]; refine Qs (Qz (Qw (Qx fun K hK => ?_))); refine Qq J J J (Zx 0 _ J (rss_frozen _ _) noBor_sub (Qi J bWire J (.one J J J J (.one J J J J .nil)) J (QW goCount hC J J J J (Qq J J J (Q9 J J J J (Q9 J J J J (Qg 0 J J zvCn J J J (Qa 5 J J J J J szCn J J (Qv J J J (Qj (hK _ _ (Qz (Qw ?_))))))))))))); clear hK K; refine Qx (fun K hK => ?_); refine Q6 (n := 5) J J J J J lCn J (QW goRate hR J J J J (Qq J J J (Q9 J J J J (Q9 J J J J (Q9 J J J J (Qg 2 J J zvFrac J J J (Qg 3 J J zvFrac J J J (Qa 3 J J J J J szFrac J J (Qa 3 J J J J J szFrac J J (Qv J J J (Qj (hK _ _ (Qz (Qw ?_)))))))))))))); clear hK K; refine Qx (fun K hK => ?_); refine QW gorFrom hF J J J J (Qq J J J (Q9 J J J J (Q9 J J J J (Qg 4 J J zvFrac J J J (Qa 3 J J J J J szFrac J J (Qv J J J (Qj (hK _ _ (Qz (Qw ?_)))))))))); clear hK K; refine Qx (fun K hK => ?_)
    refine Qq J J J (Qk ieql J J J J (Qq J J J (QV J J J fCn1 J (QY J J J J J lInt J (Qk ieql J J J J (QJ J J J J (Qq J J J (QV J J J fCn2 J (QY J J J J J lInt J (Qk ieql J J J J (QJ J J J J (Qq J J J (QV J J J fCn3 J (QY J J J J J lInt J (Qk ieql J J J J (QJ J J J J (Qq J J J (Qq J J J (Qk ieql J J J J (QJ J J J J (Qq J J J (Q6 (n := 3) J J J J J Xa J (Q6 (n := 3) J J J J J Xa J (QW goEqual hE1 J J J J (QJ J J J J (Qq J J J (Q6 (n := 3) J J J J J Xa J (Q6 (n := 3) J J J J J Xa J (QW goEqual hE2 J J J J (Qm J J J (QJ J J J J (Qv J J J (Qj (hK _ _ (Qz (Q0 ?_)))))))))))))))))))))))))))))))))))); clear hK K; refine QU [_] rfl (Qu J QQ) J J
end Go.Proofs.YtlkdkbdgnjcopaaGreat
namespace Go.Proofs.YtlkdkbdgnjcopaaGreat
open Go.Own
attribute [local irreducible] St Ops Go.Own.Fin Ok OkB OkN OkT OkL OkF wpR
theorem goCResult : InGo Tryz.prog 56 := InGo.of Tryz.func56 rfl (by decide)
set_option maxHeartbeats 8000000 in
theorem CResult_ok (bs : List Int) (p : Nat) (hb : Bytes bs) : OkB Tryz.prog 56 78 (codes bs p) [] (fun _ : Rs × Nat => True) (fun q => rsC q.1) (fun q => codes bs q.2) := by
  refine OkB.enter Tryz.func56 J _ Tryz.ntmps56 J ?_
  intro S w g; refine Qw (Qx (fun K hK => ?_)); refine Qg 1 J J zvRes J J J (Qj (hK _ _ (Qz (Qw ?_)))); clear hK K; refine Qx (fun K hK => ?_); refine Qq J J J (Qe goNext (NextA_ok bs p 2 (by decide) (by decide) hb) J J J J J (fun q hk0 => ?_)); obtain ⟨k0, p0⟩ := q; dsimp only at hk0 ⊢; refine Qq J J J (Qe goNext (NextA_ok bs p0 2 (by decide) (by decide) hb) J J J J J (fun q hk1 => ?_)); obtain ⟨k1, p1⟩ := q; dsimp only at hk1 ⊢; refine Qq J J J (Qe goNext (NextA_ok bs p1 4 (by decide) (by decide) hb) J J J J J (fun q hk2 => ?_)); obtain ⟨k2, p2⟩ := q; dsimp only at hk2 ⊢; refine Qq J J J (Qe goNext (NextA_ok bs p2 50 (by decide) (by decide) hb) J J J J J (fun q hk3 => ?_)); obtain ⟨k3, p3⟩ := q; dsimp only at hk3 ⊢; refine Qq J J J (Qe goCAddress (CAddress_ok bs p3 hb) J J J J J (fun q _ => ?_)); obtain ⟨ad, p4⟩ := q; dsimp only; refine Qq J J J (Qe goCProto (CProto_ok bs p4 hb) J J J J J (fun q _ => ?_)); obtain ⟨pr, p5⟩ := q; dsimp only; refine Qq J J J (Qe goNext (NextA_ok bs p5 3 (by decide) (by decide) hb) J J J J J (fun q hk6 => ?_)); obtain ⟨k6, p6⟩ := q; dsimp only at hk6 ⊢; refine Qq J J J (Qe goNext (NextA_ok bs p6 4 (by decide) (by decide) hb) J J J J J (fun q hk7 => ?_)); obtain ⟨k7, p7⟩ := q; dsimp only at hk7 ⊢
  refine Qk (iadd (by omega) (by omega)) J J J J ?_
  refine Qi J bRes J (.one J J J J (.one J J J J (.one J J J J (.one J J J J (.one J J J J (.one J J J J (.one J J J J (.one J J J J .nil)))))))) J (Qg 2 J J zvRes J J J (Qa 17 J J J J J Z4 J J (Qj (hK _ _ (Qz (Qw ?_)))))); clear hK K; refine St.drawR mixed 6 (.p 0 (.p 2 (.f 1 (.m 3 (.p 4 (.p 5 (.a 6 .done))))))) (by kernel_rfl) (fun K hK => ?_); refine Xb (QV J J J fS3 J (Qj (Xb (Qq J J J (Qj (Fin.rfA (c := intC k3) J J J J J lInt (Z3 J) J (Fin.rmB J goNext (NextA_ok bs p7 30 (by decide) (by decide) hb) J J J J J (fun y hy0 => ?_)))))))); obtain ⟨dd, p8⟩ := y; dsimp only at hy0 ⊢; refine Xb (Qk (iadd (by omega) (by omega)) J J J J ?_); refine Qj (Xb (QV J J J fS10 J (Qj (Fin.ra (XY J J J J J zInt (Nat.le_of_ble_eq_true J) (Qj (Fin.rdone (hK _ _ ?_)))))))); clear hK K; generalize k3 + dd = bk; refine Qz (Qw (Qw (Qx fun K hK => ?_)))
  refine Qq J J J ?_
  skip; refine Qe goNext (NextA_ok bs p8 3 (by decide) (by decide) hb) J J J J J (fun q hk9 => ?_); obtain ⟨k9, p9⟩ := q; dsimp only at hk9 ⊢; refine Qk igtr J J J J (Qj (hK _ _ (Qz ?_))); clear hK K; refine Xo (α := Rs × Nat) (fun _ => True) (fun _ => [(0, .own 0), (2, .own 1), (3, .own 2)]) (fun x => [(2, .box 35 (rsCs x.1)), (1, .box 35 (zRes.cells.toList.map CT.ex)), (0, .box 78 (codes bs x.2))]) (fun x _ => ?_) (fun KK hN => ?_); rotate_left
  · refine Q2 J (fun _ => ?_) (fun _ => ?_)
    · refine Qw (Qx fun K hK => ?_)
      refine Qq J J J ?_
      skip; refine Qe goNext (NextA_ok bs p9 6 (by decide) (by decide) hb) J J J J J (fun q hk10 => ?_); obtain ⟨k10, p10⟩ := q; dsimp only at hk10 ⊢; refine Qk ieql J J J J (QV J J J fS8 J (XY J J J J J zBool1 (Nat.le_of_ble_eq_true J) (QV J J J fS9 J (XY J J J J J zBool1 (Nat.le_of_ble_eq_true J) (Qj (hK _ _ (Qz ?_))))))); clear hK K; refine Qx (fun K hK => ?_); refine Qq J J J (Qe goCAddress (CAddress_ok bs p10 hb) J J J J J (fun q _ => ?_)); obtain ⟨fr, p11⟩ := q; dsimp only; refine Qq J J J (Qe goNext (NextA_ok bs p11 5 (by decide) (by decide) hb) J J J J J (fun q hk12 => ?_)); obtain ⟨k12, p12⟩ := q; dsimp only at hk12 ⊢
      refine Qk (iadd (by omega) (by omega)) J J J J ?_
      refine Qq J J J (Qe goNext (NextA_ok bs p12 4 (by decide) (by decide) hb) J J J J J (fun q hk13 => ?_)); obtain ⟨k13, p13⟩ := q; dsimp only at hk13 ⊢; refine Qq J J J (Qe goNext (NextA_ok bs p13 5 (by decide) (by decide) hb) J J J J J (fun q hk14 => ?_)); obtain ⟨k14, p14⟩ := q; dsimp only at hk14 ⊢
      refine Qk (iadd (by omega) (by omega)) J J J J ?_
      refine Qq J J J (Qe goNext (NextA_ok bs p14 300 (by decide) (by decide) hb) J J J J J (fun q hk15 => ?_)); obtain ⟨k15, p15⟩ := q; dsimp only at hk15 ⊢; refine Qq J J J (Qe goNext (NextA_ok bs p15 2 (by decide) (by decide) hb) J J J J J (fun q hk16 => ?_)); obtain ⟨k16, p16⟩ := q; dsimp only at hk16 ⊢
      refine Qk (iadd (by omega) (by omega)) J J J J ?_
      refine Qi J bAns J (.one J J J J (.one J J J J (.one J J J J (.one J J J J (.one J J J J (.one J J J J .nil)))))) J (QV J J J fS11 J (Ops.stNA J J J J J (by exact szAns) (Nat.le_of_ble_eq_true J) ?_)); refine Qj (hK _ _ ?_); clear hK K; exact Qr hN (⟨k0, k1, k2, k3, ad, pr, k6, 1 + k7, true, decide (k10 = 5), bk, fr, 1 + k12, k13, 60 + k14, k15, 1 + k16⟩, p16) trivial (by exact QX J ⟨rfl, rfl, rfl, trivial⟩)
    · refine Q1 ?_
      exact Qr hN (⟨k0, k1, k2, k3, ad, pr, k6, 1 + k7, false, false, bk, 0, 0, 0, 0, 0, 0⟩, p9) trivial (by exact QX J ⟨rfl, rfl, rfl, trivial⟩)
  obtain ⟨⟨va, ru, nu, tm, dst, pr2, fl, tt, an, db, bk2, fr, ki, co, le, id, qu⟩, q0⟩ := x; dsimp only; refine Qw (Qw (Qx fun K hK => ?_)); refine Qq J J J (Qe goNext (NextA_ok bs q0 16 (by decide) (by decide) hb) J J J J J (fun q hq => ?_)); obtain ⟨sw, q1⟩ := q; dsimp only at hq ⊢; refine Qj (hK _ _ ?_); clear hK K; refine Qz (Xo (α := Rs × Nat) (fun _ => True) (fun _ => [(0, .own 0), (2, .own 1), (3, .own 2)]) (fun x => [(2, .box 35 (rsCs x.1)), (1, .box 35 (zRes.cells.toList.map CT.ex)), (0, .box 78 (codes bs x.2))]) (fun x _ => ?_) (fun KK hN => ?_)); rotate_left
  · refine Q5 (Qw (Qx fun K hK => ?_)); refine Qk ieql J J J J (Qv J J J (Qj (hK _ _ (Qz ?_)))); clear hK K; refine Q2 J (fun _ => ?_) (fun _ => ?_)
    · refine Qx (fun K hK => ?_); refine Qq J J J (Qe goInt (Int_ok bs q1 hb) J J J J J (fun q _ => ?_)); obtain ⟨x1, q2⟩ := q; dsimp only; refine Qq J J J (Qe goInt (Int_ok bs q2 hb) J J J J J (fun q _ => ?_)); obtain ⟨x2, q3⟩ := q; dsimp only; refine QV J J J fS3 J (XY J J J J J zInt (Nat.le_of_ble_eq_true J) (QV J J J fS10 J (XY J J J J J zInt (Nat.le_of_ble_eq_true J) (Qj (hK _ _ (Qd ?_)))))); clear hK K; exact Qr hN (⟨va, ru, nu, x1, dst, pr2, fl, tt, an, db, x2, fr, ki, co, le, id, qu⟩, q3) trivial (by exact QX J ⟨rfl, rfl, rfl, trivial⟩)
    refine Qw (Qx fun K hK => ?_); refine Qk ieql J J J J (Qv J J J (Qj (hK _ _ (Qz ?_)))); clear hK K; refine Q2 J (fun _ => ?_) (fun _ => ?_)
    · refine Qx (fun K hK => ?_); refine Qq J J J (Qe goInt (Int_ok bs q1 hb) J J J J J (fun q _ => ?_)); obtain ⟨x1, q2⟩ := q; dsimp only; refine Qq J J J (Qe goInt (Int_ok bs q2 hb) J J J J J (fun q _ => ?_)); obtain ⟨x2, q3⟩ := q; dsimp only; refine Qq J J J (Qe goInt (Int_ok bs q3 hb) J J J J J (fun q _ => ?_)); obtain ⟨x3, q4⟩ := q; dsimp only; refine QV J J J fS6 J (XY J J J J J zInt (Nat.le_of_ble_eq_true J) (QV J J J fS7 J (XY J J J J J zInt (Nat.le_of_ble_eq_true J) (QV J J J fS5 J (XY J J J J J zInt (Nat.le_of_ble_eq_true J) (Qj (hK _ _ (Qd ?_)))))))); clear hK K; exact Qr hN (⟨va, ru, nu, tm, dst, x3, x1, x2, an, db, bk2, fr, ki, co, le, id, qu⟩, q4) trivial (by exact QX J ⟨rfl, rfl, rfl, trivial⟩)
    refine Qw (Qx fun K hK => ?_); refine Qk ieql J J J J (Qv J J J (Qj (hK _ _ (Qz ?_)))); clear hK K; refine Q2 J (fun _ => ?_) (fun _ => ?_)
    · refine Qx (fun K hK => ?_); refine Qq J J J (Qe goInt (Int_ok bs q1 hb) J J J J J (fun q _ => ?_)); obtain ⟨x1, q2⟩ := q; dsimp only; refine Qq J J J (Qe goInt (Int_ok bs q2 hb) J J J J J (fun q _ => ?_)); obtain ⟨x2, q3⟩ := q; dsimp only; refine QV J J J fS11 J (XK J J fN1 J (XY J J J J J zInt (Nat.le_of_ble_eq_true J) (QV J J J fS11 J (XK J J fN4 J (XY J J J J J zInt (Nat.le_of_ble_eq_true J) (Qj (hK _ _ (Qd ?_)))))))); clear hK K; exact Qr hN (⟨va, ru, nu, tm, dst, pr2, fl, tt, an, db, bk2, fr, x1, co, le, x2, qu⟩, q3) trivial (by exact QX J ⟨rfl, rfl, rfl, trivial⟩)
    refine Qw (Qx fun K hK => ?_); refine Qk ieql J J J J (Qv J J J (Qj (hK _ _ (Qz ?_)))); clear hK K; refine Q2 J (fun _ => ?_) (fun _ => ?_)
    · refine Qx (fun K hK => ?_); refine Qq J J J (Qe goInt (Int_ok bs q1 hb) J J J J J (fun q _ => ?_)); obtain ⟨x1, q2⟩ := q; dsimp only; refine Qq J J J (Qe goInt (Int_ok bs q2 hb) J J J J J (fun q _ => ?_)); obtain ⟨x2, q3⟩ := q; dsimp only; refine Qq J J J (Qe goInt (Int_ok bs q3 hb) J J J J J (fun q _ => ?_)); obtain ⟨x3, q4⟩ := q; dsimp only; refine QV J J J fS0 J (XY J J J J J zInt (Nat.le_of_ble_eq_true J) (QV J J J fS1 J (XY J J J J J zInt (Nat.le_of_ble_eq_true J) (QV J J J fS2 J (XY J J J J J zInt (Nat.le_of_ble_eq_true J) (Qj (hK _ _ (Qd ?_)))))))); clear hK K; exact Qr hN (⟨x1, x2, x3, tm, dst, pr2, fl, tt, an, db, bk2, fr, ki, co, le, id, qu⟩, q4) trivial (by exact QX J ⟨rfl, rfl, rfl, trivial⟩)
    refine Q1 (Qd ?_); exact Qr hN (⟨va, ru, nu, tm, dst, pr2, fl, tt, an, db, bk2, fr, ki, co, le, id, qu⟩, q1) trivial (by exact QX J ⟨rfl, rfl, rfl, trivial⟩)
  obtain ⟨r, q2⟩ := x; dsimp only; refine Qw (Qx fun K hK => ?_); refine Q6 (n := 17) J J J J J lRes J (Qa 17 J J J J J Z4 J J (Qj (hK _ _ (Qz (Q0 ?_))))); clear hK K; refine Zv (r, q2) [_] rfl (Qc (n := 17) J J lRes J QQ) J J trivial
theorem subW (x y : Int) : IBin .sub .i64 x .i64 y (.int .i64 (IntKind.i64.wrap (x - y))) := .of fun _ _ _ => rfl
theorem rss_cell {l : List Rs} {j : Nat} (o : Nat) (h : j < l.length) (ho : o < 17) : (rss l)[j * 17 + o]? = (rsCs (l.getD j rs0))[o]? := el_cell Z7 rs0 h ho
theorem goOdd : InGo Tryz.prog 21 := InGo.of Tryz.func21 rfl (by decide)
set_option maxHeartbeats 16000000 in
theorem Odd_ok (bs : List Int) (p : Nat) (l : List Rs) (hl : l.length ≤ 100) (hb : Bytes bs) : OkB Tryz.prog 21 78 (codes bs p) [rssC l] (fun q : List Rs × Nat => q.1.length ≤ l.length + 1) (fun q => rssC q.1) (fun q => codes bs q.2) := by
  refine OkB.enter Tryz.func21 J _ Tryz.ntmps21 J ?_
  intro S w g; refine Qw (Qx fun K hK => ?_); refine Qv J J J (Qj (hK _ _ (Qz (Qw ?_)))); clear hK K; refine Qx (fun K hK => ?_); refine Qq J J J (Ops.appNil 1 J J J sRes (rss_ones l) (by rw [List.length_map]; omega) (by rw [List.length_map]; omega) J J J ?_); refine Qv J J J (Qj (hK _ _ (Qz (Qw (Qw ?_))))); clear hK K; refine Qx (fun K hK => ?_); refine Qq J J J (ZZ l.length J J J (by decide) (rss_len l) sRes.und J ?_); refine Qk ieql J J J J (Qj (hK _ _ (Qz ?_))); clear hK K; refine Q2 J (fun h0 => ?_) (fun h0 => ?_)
  · refine Qw (Qx fun K hK => ?_); refine Qq J J J (Qq J J J (Qe goCResult (CResult_ok bs p hb) J J J J J (fun q _ => ?_))); obtain ⟨r, p1⟩ := q; dsimp only
    refine X6 (n := 17) J J sRes J J (by decide) J ?_
    refine Qt l.length (rss (l ++ [r])) J J J J sRes (rss_len l) J (by omega) (by omega) (Z9 l r) J ?_
    refine Qv J J J (Qj (hK _ _ ?_)); clear hK K; refine Qz (St.frz 1 _ J (rss_frozen _ _) (Zs J) (Q0 (QZ ?_))); refine Zv (l ++ [r], p1) [_] rfl (Qu J QQ) J J (by simp)
  refine Q1 (Qz (Qw (Qx fun K hK => ?_))); refine Qq J J J (Qq J J J (ZZ l.length J J J (by decide) (rss_len l) sRes.und J ?_)); refine Qe goNext (NextA_ok bs p l.length (by omega) (by omega) hb) J J J J J (fun q hq => ?_); obtain ⟨i, p1⟩ := q; dsimp only at hq ⊢; refine Qv J J J (Qj (hK _ _ (Qz (Qw (Qw ?_))))); clear hK K; refine Qx (fun K hK => ?_); refine Qq J J J (Qe goNext (NextA_ok bs p1 9 (by decide) (by decide) hb) J J J J J (fun q hq2 => ?_)); obtain ⟨sw, p2⟩ := q; dsimp only at hq2 ⊢; refine Qj (hK _ _ ?_); clear hK K; refine Qz (Xo (α := List Rs × Nat) (fun x => x.1.length = l.length) (fun _ => [(0, .own 0), (5, .own 1)]) (fun x => [(1, .row 35 17 (rss x.1)), (0, .box 78 (codes bs x.2))]) (fun x hx => ?_) (fun KK hN => ?_)); rotate_left
  · refine Q5 (Qw (Qx fun K hK => ?_)); refine Qk ieql J J J J (Qv J J J (Qj (hK _ _ (Qz ?_)))); clear hK K; refine Q2 J (fun _ => ?_) (fun _ => ?_)
    · refine Qx (fun K hK => ?_); refine Qq J J J (Qq J J J (Qq J J J (Qe goCResult (CResult_ok bs p2 hb) J J J J J (fun q _ => ?_)))); obtain ⟨r, p3⟩ := q; dsimp only
      refine Xu l.length J J J (rss_len l) J sRes (by omega) (by omega) J ?_
      refine stE rsCs r Z7 J J J J J (by omega) Z4 ?_
      refine Qj (hK _ _ (Qd ?_)); clear hK K; exact Qr hN (l.set i.toNat r, p3) (List.length_set ..) (by exact QX J ⟨rfl, rfl, trivial⟩)
    refine Qw (Qx fun K hK => ?_); refine Qk ieql J J J J (Qv J J J (Qj (hK _ _ (Qz ?_)))); clear hK K; refine Q2 J (fun _ => ?_) (fun _ => ?_)
    · refine Qx (fun K hK => ?_); refine Qq J J J (Qq J J J (Qq J J J (Qe Zc (Yx bs p2 hb) J J J J J (fun q _ => ?_)))); obtain ⟨a, p3⟩ := q; dsimp only
      refine Xu l.length J J J (rss_len l) J sRes (by omega) (by omega) J ?_
      refine XK J J fS11 J (XK J J fN0 J (stE1 (j := i.toNat) (o := 11) (n := 17) rsCs rs0 {l.getD i.toNat rs0 with fr := a} Z7 J J J J J (by omega) (by decide) J zAddr ?_)); refine Qj (hK _ _ (Qd ?_)); clear hK K; exact Qr hN (l.set i.toNat {l.getD i.toNat rs0 with fr := a}, p3) (List.length_set ..) (by exact QX J ⟨rfl, rfl, trivial⟩)
    refine Qw (Qx fun K hK => ?_); refine Qk ieql J J J J (Qv J J J (Qj (hK _ _ (Qz ?_)))); clear hK K; refine Q2 J (fun _ => ?_) (fun _ => ?_)
    · refine Qx (fun K hK => ?_); refine Qq J J J (Qq J J J (Qq J J J (Qq J J J (Xu l.length J J J (rss_len l) J sRes (by omega) (by omega) J ?_)))); refine XK J J fS8 J (QY (c := boolC (l.getD i.toNat rs0).an) J J J J (rss_cell 8 (j := i.toNat) (by omega) (by decide)) lBool1 J ?_); refine Qm J J J (Xu l.length J J J (rss_len l) J sRes (by omega) (by omega) J ?_); refine XK J J fS8 J (stE1 (j := i.toNat) (o := 8) (n := 17) rsCs rs0 {l.getD i.toNat rs0 with an := !(l.getD i.toNat rs0).an} Z7 J J J J J (by omega) (by decide) J zBool1 ?_); refine Qj (hK _ _ (Qd ?_)); clear hK K; exact Qr hN (l.set i.toNat {l.getD i.toNat rs0 with an := !(l.getD i.toNat rs0).an}, p2) (List.length_set ..) (by exact QX J ⟨rfl, rfl, trivial⟩)
    refine Qw (Qx fun K hK => ?_); refine Qk ieql J J J J (Qv J J J (Qj (hK _ _ (Qz ?_)))); clear hK K; refine Q2 J (fun _ => ?_) (fun _ => ?_)
    · refine Qx (fun K hK => ?_); refine Qq J J J (Qq J J J (Qq J J J (YV [0, 1, 2, 255, 256] rfl rfl sInts J ⟨rfl, rfl, rfl, rfl, rfl, rfl, rfl, rfl, rfl, rfl, trivial⟩ (by decide) J ?_))); refine Qe goPick (Pick_ok bs p2 [0, 1, 2, 255, 256] (by decide) (by decide) hb) J J J J J (fun q _ => ?_); obtain ⟨k, p3⟩ := q; dsimp only
      refine Xu l.length J J J (rss_len l) J sRes (by omega) (by omega) J ?_
      refine XK J J fS7 J (stE1 (j := i.toNat) (o := 7) (n := 17) rsCs rs0 {l.getD i.toNat rs0 with tt := k} Z7 J J J J J (by omega) (by decide) J zInt ?_); refine Qj (hK _ _ (Qd ?_)); clear hK K; exact Qr hN (l.set i.toNat {l.getD i.toNat rs0 with tt := k}, p3) (List.length_set ..) (by exact QX J ⟨rfl, rfl, trivial⟩)
    refine Qw (Qx fun K hK => ?_); refine Qk ieql J J J J (Qv J J J (Qj (hK _ _ (Qz ?_)))); clear hK K; refine Q2 J (fun _ => ?_) (fun _ => ?_)
    · skip; refine St.drawR mixed 18 (.p 0 (.p 1 (.p 2 (.p 3 (.p 4 (.p 5 (.p 6 (.p 8 (.p 9 (.p 10 (.p 11 (.f 7 (.f 12 (.p 13 (.m 14 (.m 15 (.p 16 (.p 17 (.a 18 .done))))))))))))))))))) (by kernel_rfl) (fun K hK => ?_); refine Xb (Qq J J J (Qj (Xb (Qq J J J (Qj (Xb (Qq J J J (Qj (Xb (Qq J J J (Qj (Xb (Qq J J J (Qj (Xb (Xu l.length J J J (rss_len l) J sRes (by omega) (by omega) J ?_)))))))))))))))); refine Qj (Xb (XK J J fS3 J (Qj (Xb (Qq J J J (Qj (Xb (Qq J J J (Qj (Xb (Xu l.length J J J (rss_len l) J sRes (by omega) (by omega) J ?_))))))))))); refine Qj (Xb (XK J J fS3 J (Qj (Fin.rfA (c := intC (l.getD i.toNat rs0).tm) J J J J (rss_cell 3 (j := i.toNat) (by omega) (by decide)) lInt (Z3 J) J ?_))))
      refine Fin.rfA (c := intC (l.getD i.toNat rs0).tm) J J J J (rss_cell 3 (j := i.toNat) (by omega) (by decide)) lInt (Z3 J) J ?_
      refine Xb (Qk (subW _ _) J J J J (Qj (Fin.rm (YV [(l.getD i.toNat rs0).tm, IntKind.i64.wrap ((l.getD i.toNat rs0).tm - 1), 2251799813685248, 2251799813685249] rfl rfl sInts J ⟨rfl, rfl, rfl, rfl, rfl, rfl, rfl, rfl, trivial⟩ (by decide) J ?_)))); refine Qj (Fin.rmB J goPick (Pick_ok bs p2 [(l.getD i.toNat rs0).tm, IntKind.i64.wrap ((l.getD i.toNat rs0).tm - 1), 2251799813685248, 2251799813685249] (by simp) (by simp) hb) J J J J J (fun y _ => ?_)); obtain ⟨k, p3⟩ := y; dsimp only; refine Xb (Xu l.length J J J (rss_len l) J sRes (by omega) (by omega) J ?_); refine Qj (Xb (XK J J fS10 J (Qj (Fin.ra (stE1 (j := i.toNat) (o := 10) (n := 17) rsCs rs0 {l.getD i.toNat rs0 with bk := k} Z7 J J J J J (by omega) (by decide) J zInt ?_))))); refine Qj (Fin.rdone (hK _ _ ?_)); clear hK K
      refine Qd ?_
      exact Qr hN (l.set i.toNat {l.getD i.toNat rs0 with bk := k}, p3) (List.length_set ..) (by exact QX J ⟨rfl, rfl, trivial⟩)
    refine Qw (Qx fun K hK => ?_); refine Qk ieql J J J J (Qv J J J (Qj (hK _ _ (Qz ?_)))); clear hK K; refine Q2 J (fun _ => ?_) (fun _ => ?_)
    · refine Qx (fun K hK => ?_); refine Qq J J J (Qq J J J (Qq J J J (Qq J J J (Qq J J J (ZZ l.length J J J (by decide) (rss_len l) sRes.und J ?_))))); refine Qe goNext (NextA_ok bs p2 l.length (by omega) (by omega) hb) J J J J J (fun q hq3 => ?_); obtain ⟨j, p3⟩ := q; dsimp only at hq3 ⊢
      refine Xu l.length J J J (rss_len l) J sRes (by omega) (by omega) J ?_
      refine XK J J fS2 J (QY (c := intC (l.getD j.toNat rs0).nu) J J J J (rss_cell 2 (j := j.toNat) (by omega) (by decide)) lInt J ?_)
      refine Xu l.length J J J (rss_len l) J sRes (by omega) (by omega) J ?_
      refine XK J J fS2 J (stE1 (j := i.toNat) (o := 2) (n := 17) rsCs rs0 {l.getD i.toNat rs0 with nu := (l.getD j.toNat rs0).nu} Z7 J J J J J (by omega) (by decide) J zInt ?_); refine Qj (hK _ _ (Qd ?_)); clear hK K; exact Qr hN (l.set i.toNat {l.getD i.toNat rs0 with nu := (l.getD j.toNat rs0).nu}, p3) (List.length_set ..) (by exact QX J ⟨rfl, rfl, trivial⟩)
    refine Qw (Qx fun K hK => ?_); refine Qk ieql J J J J (Qv J J J (Qj (hK _ _ (Qz ?_)))); clear hK K; refine Q2 J (fun _ => ?_) (fun _ => ?_)
    · refine Qx (fun K hK => ?_); refine Qq J J J (Qq J J J (Qq J J J (Qe goNext (NextA_ok bs p2 2 (by decide) (by decide) hb) J J J J J (fun q hq3 => ?_)))); obtain ⟨a, p3⟩ := q; dsimp only at hq3 ⊢
      refine Xe J J uInt uAddr (wrap_toFin (n := a) (by omega) (by omega)) J ?_
      generalize (⟨a.toNat, _⟩ : Fin 4294967296) = ad
      refine Xu l.length J J J (rss_len l) J sRes (by omega) (by omega) J ?_
      refine XK J J fS4 J (stE1 (j := i.toNat) (o := 4) (n := 17) rsCs rs0 {l.getD i.toNat rs0 with dst := ad} Z7 J J J J J (by omega) (by decide) J zAddr ?_); refine Qj (hK _ _ (Qd ?_)); clear hK K; exact Qr hN (l.set i.toNat {l.getD i.toNat rs0 with dst := ad}, p3) (List.length_set ..) (by exact QX J ⟨rfl, rfl, trivial⟩)
    refine Qw (Qx fun K hK => ?_); refine Qk ieql J J J J (Qv J J J (Qj (hK _ _ (Qz ?_)))); clear hK K; refine Q2 J (fun _ => ?_) (fun _ => ?_)
    · refine Qx (fun K hK => ?_); refine Qq J J J (Qq J J J (Qq J J J (Qq J J J (Xu l.length J J J (rss_len l) J sRes (by omega) (by omega) J ?_)))); refine XK J J fS9 J (QY (c := boolC (l.getD i.toNat rs0).db) J J J J (rss_cell 9 (j := i.toNat) (by omega) (by decide)) lBool1 J ?_); refine Qm J J J (Xu l.length J J J (rss_len l) J sRes (by omega) (by omega) J ?_); refine XK J J fS9 J (stE1 (j := i.toNat) (o := 9) (n := 17) rsCs rs0 {l.getD i.toNat rs0 with db := !(l.getD i.toNat rs0).db} Z7 J J J J J (by omega) (by decide) J zBool1 ?_); refine Qj (hK _ _ (Qd ?_)); clear hK K; exact Qr hN (l.set i.toNat {l.getD i.toNat rs0 with db := !(l.getD i.toNat rs0).db}, p2) (List.length_set ..) (by exact QX J ⟨rfl, rfl, trivial⟩)
    refine Qw (Qx fun K hK => ?_); refine Qk ieql J J J J (Qv J J J (Qj (hK _ _ (Qz ?_)))); clear hK K; refine Q2 J (fun _ => ?_) (fun _ => ?_)
    · refine Qx (fun K hK => ?_); refine Qq J J J (Qq J J J (Qq J J J (Qe goNext (NextA_ok bs p2 7 (by decide) (by decide) hb) J J J J J (fun q _ => ?_)))); obtain ⟨k, p3⟩ := q; dsimp only
      refine Xu l.length J J J (rss_len l) J sRes (by omega) (by omega) J ?_
      refine XK J J fS11 J (XK J J fN1 J (stE1 (j := i.toNat) (o := 12) (n := 17) rsCs rs0 {l.getD i.toNat rs0 with ki := k} Z7 J J J J J (by omega) (by decide) J zInt ?_)); refine Qj (hK _ _ (Qd ?_)); clear hK K; exact Qr hN (l.set i.toNat {l.getD i.toNat rs0 with ki := k}, p3) (List.length_set ..) (by exact QX J ⟨rfl, rfl, trivial⟩)
    refine Q1 (Qd ?_); exact Qr hN (l, p2) J (by exact QX J ⟨rfl, rfl, trivial⟩)
  obtain ⟨l2, p3⟩ := x; dsimp only at hx ⊢; refine St.frz 1 _ J (rss_frozen _ _) (Zs J) (Qw (Qx fun K hK => ?_)); refine Qq J J J (Qv J J J (Qj (hK _ _ (Qz (Q0 ?_))))); clear hK K; refine Zv (l2, p3) [_] rfl (Qu J QQ) J J (by dsimp only; omega)
end Go.Proofs.YtlkdkbdgnjcopaaGreat
namespace Go.Proofs.YtlkdkbdgnjcopaaGreat
open Go.Own Go.Limbs
attribute [local irreducible] St Ops Go.Own.Fin Ok OkB OkN OkT OkL OkF OkM
theorem sLsts : SlcT Tryz.prog 62 29 1 24 (.slice none 0 0) := SlcT.of Tryz.underlying62 (by kernel_rfl) rfl (by decide)
theorem getD_memA {α : Type} {l : List α} {i : Nat} {z : α} (h : i < l.length) : l.getD i z ∈ l := by
  rw [List.getD_eq_getElem?_getD, List.getElem?_eq_getElem h]; exact List.getElem_mem h
set_option maxHeartbeats 64000000 in
theorem LossSteps_ok (bs : List Int) (hb : ∀ b ∈ bs, 0 ≤ b ∧ b < 256) (raw : List Rs) (hraw : raw.length ≤ 9223372036854775807) (w : Wr) (bud : Int) (n : Cn)
    (hn : (-9223372036854775808 ≤ n.se ∧ n.se < 9223372036854775808) ∧ (-9223372036854775808 ≤ n.lo ∧ n.lo < 9223372036854775808) ∧ (-9223372036854775808 ≤ n.hi ∧ n.hi < 9223372036854775808)) :
    Ok Tryz.prog 6 [bytesC bs, rssC raw, wrC w, intC bud, cnC n] (boolC true) := by
  refine Ok.enter Tryz.func6 J _ Tryz.ntmps6 J ?_
  intro S w0; have hB : Bytes (bs.take 400) := ⟨fun b h => (hb b (List.mem_of_mem_take h)).1, fun b h => (hb b (List.mem_of_mem_take h)).2, by simp; omega⟩; have hRoll := Roll_ok bs; generalize bs.take 400 = B0 at hB hRoll; refine Qw (Qx (fun K hK => ?_)); refine Xz 0 J J J J J J J (Xz 1 J J J J J J J (Qv J J J (Qj (hK _ _ (Qz (Qw (Qw ?_))))))); clear hK K; refine Qx (fun K hK => ?_); refine QW goawake awake_ok J J J J (Qm J J J (Qq J J J (Qq J J J (Qb J J sRes.und (List.length_map ..) J (Qk igtr J J J J (QK J J J J (Qj (hK _ _ (Qz ?_))))))))); clear hK K; refine Q2 J (fun h8 => ?_) (fun h8 => ?_)
  · refine Qw (Qx fun K hK => ?_); refine QW goawake awake_ok J J J J (Qv J J J (Qj (hK _ _ (Qz (Q0 (QZ ?_)))))); clear hK K; refine QU [_] rfl (Qu J QQ) J J
  refine Q1 (Qz (Qw (Qx fun K hK => ?_))); refine Qq J J J (Ops.callN 2 goRoll hRoll J J J J J J (Qv J J J (Qj (hK _ _ (Qz (Qw ?_)))))); clear hK K; refine Qx (fun K hK => ?_); refine Qq J J J (Qe goDConsistent (DConsistent_ok B0 0 20 (by decide) (by decide) hB) J J J J J (fun q hx => ?_)); obtain ⟨x, p1⟩ := q; dsimp only at hx ⊢; obtain ⟨hxl, _⟩ := hx; refine Qv J J J (Qj (hK _ _ (Qz (Qw (Qw ?_))))); clear hK K; refine Qx (fun K hK => ?_); refine Qq J J J (Qq J J J (Qq J J J (Qq J J J (Qe goOdd (Odd_ok B0 p1 x (by omega) hB) J J J J J (fun q hy => ?_))))); obtain ⟨y3, p2⟩ := q; dsimp only at hy ⊢; refine Qq J J J (Qe goResults (Results_ok B0 p2 12 false (by decide) (by decide) hB) J J J J J (fun q hz => ?_)); obtain ⟨y4, p3⟩ := q; dsimp only at hz ⊢; obtain ⟨hzl, _⟩ := hz
  refine Ops.lit (m := 4) (n := 1) (cs := [rssC x, rssC raw, rssC y3, rssC y4]) J J sLsts (.one J J J J (.one J J J J (.one J J J J (.one J J J J .nil)))) (by decide) J ?_
  refine Qb J J sLsts.und J J (Qq J J J (Qj (hK _ _ (Qz (Q5 ?_))))); clear hK K; obtain ⟨lst, hlst⟩ : ∃ lst : List (List CT), lst = [[rssC x], [rssC raw], [rssC y3], [rssC y4]] := ⟨_, rfl⟩
  have hls : ∀ i : Nat, i < 4 → ∃ y : List Rs, y.length ≤ 100 ∧ lst[i]? = some [rssC y] := fun i hi => by
    rw [hlst]; rcases (show i = 0 ∨ i = 1 ∨ i = 2 ∨ i = 3 by omega) with rfl | rfl | rfl | rfl
    · exact ⟨x, by omega, rfl⟩
    · exact ⟨raw, by omega, rfl⟩
    · exact ⟨y3, by omega, rfl⟩
    · exact ⟨y4, by omega, rfl⟩
  refine Xx (α := Nat × Nat) (fun q => q.1 ≤ 4)
    (fun q => [(3, .ct (intC bud)), (7, .own 0), (9, .own 1), (11, .own 2), (62, .ct (.fr (sliceT 1 lst))), (63, .ct (intC 4)), (64, .ct (intC q.1))])
    (fun q => [(2, .box 78 (codes B0 q.2)), (1, .box 39 (cnCs n)), (0, .box 37 (wrCs w))]) (fun q => 4 - q.1) (0, p3) (Nat.zero_le _) (by rw [hlst]; exact QX J ⟨rfl, rfl, rfl, rfl, rfl, rfl, rfl, trivial⟩) ?_
  clear hlst hraw h8 hy hzl hxl
  rintro ⟨i, p⟩ hi
  dsimp only at hi ⊢; refine Qw (Qx fun K hK => ?_); refine Qk ilss J J J J (Qj (hK _ _ (Qz (Qw ?_)))); clear hK K; refine Q2 J (fun h => ?_) (fun h => ?_); rotate_left
  · refine Qs (Qz (Qw (Qx fun K hK => ?_))); refine Qv J J J (Qj (hK _ _ (Qz (Q0 ?_)))); clear hK K; refine QU [_] rfl (Qu J QQ) J J
  have e2 : (i : Int).toNat = i := Int.toNat_natCast i; obtain ⟨y, hyl, hyat⟩ := hls i (by omega)
  have hAll := fun b => both_all y hyl b
  have hCr := fun w => both_cr y hyl w
  have hCn := fun w b => both_cn y hyl w b
  have hHo := fun b c s t hs ht => both_ho y hyl b c s t hs ht
  clear hyl; refine Q1 (Qz (Qw (Q5 (Qw (Qx fun K hK => ?_)))))
  refine Qh J J J sLsts (by omega) (by rw [e2]; exact hyat) J ?_
  refine XQ J J J lRess J (Qv J J J (Qj (hK _ _ ?_))); clear hK K; refine Qz (Qw (Xo (α := List Wr × Nat) (fun q => q.1.length = 3) (fun _ => [(3, .ct (intC bud)), (7, .own 0), (9, .own 1), (11, .own 2), (62, .ct (.fr (sliceT 1 lst))), (63, .ct (intC 4)), (64, .ct (intC i)), (14, .ct (rssC y)), (15, .own 3)]) (fun q => [(3, .row 37 2 (wrs q.1)), (2, .box 78 (codes B0 q.2)), (1, .box 39 (cnCs n)), (0, .box 37 (wrCs w))]) (fun q hq => ?_) (fun KN hM => ?_))); rotate_left
  · skip; refine Yq mixed [2, 4, 7] (.p 1 (.p 3 (.p 6 (.m 0 (.a 2 (.a 4 (.p 5 (.a 7 (.p 8 (.m 9 (.p 10 .done) .non)) .non)) .non) .non) (.a 2 (.m 0 (.a 4 (.p 5 (.a 7 (.p 8 (.m 9 (.p 10 .done) .non)) .non)) .non) (.a 4 (.p 5 (.m 0 (.a 7 (.p 8 (.m 9 (.p 10 .done) .non)) .non) (.a 7 (.p 8 (.f 0 (.m 9 (.p 10 .done) .non))) .non))) .non)) .non))))) (by kernel_rfl) (fun K hK => ?_); refine Qo (Qq J J J (Qj (Qo (Qq J J J (Qj (Qo (Qq J J J (Qj (X1 ?_ ?_)))))))))
    · refine Q6 (n := 2) J J J J J Xm J (Qj (Xk ?_ Qf)); refine Qe Zc (Yx B0 p hB) J J J J J (fun q _ => ?_); obtain ⟨a1, q1⟩ := q; dsimp only; refine Qj (Xk ?_ Qf); refine Qe Zc (Yx B0 q1 hB) J J J J J (fun q _ => ?_); obtain ⟨a2, q2⟩ := q; dsimp only; refine Qj (Qo (Qi J bWire J (.one J J J J (.one J J J J .nil)) J (Qj (Xk ?_ Qf)))); refine Qe Zc (Yx B0 q2 hB) J J J J J (fun q _ => ?_); obtain ⟨a3, q3⟩ := q; dsimp only; refine Qj (Qo (Qi J bWire J (.one J J J J .nil) J (Qj (X1 ?_ Qf))))
      refine Ops.litE 3 (m := 3) (n := 2) (cs := [adrF w.1, adrF w.2, adrF a1, adrF a2, adrF 0, adrF a3]) J J sWrs (.agg J J J J (.agg J J J J (.agg J J J J .nil))) (by decide) J J J ?_
      refine Qj (Qo (Qv J J J (Qj (Xy (hK _ _ ?_))))); exact Qr hM ([w, (a1, a2), (0, a3)], q3) J (QX J ⟨rfl, rfl, rfl, rfl, rfl, rfl, rfl, rfl, rfl, trivial⟩)
    refine Xk ?_ Qf
    refine Qe Zc (Yx B0 p hB) J J J J J (fun q _ => ?_); obtain ⟨a1, q1⟩ := q; dsimp only; refine Qj (X1 ?_ ?_)
    · refine Q6 (n := 2) J J J J J Xm J (Qj (Xk ?_ Qf)); refine Qe Zc (Yx B0 q1 hB) J J J J J (fun q _ => ?_); obtain ⟨a2, q2⟩ := q; dsimp only; refine Qj (Qo (Qi J bWire J (.one J J J J (.one J J J J .nil)) J (Qj (Xk ?_ Qf)))); refine Qe Zc (Yx B0 q2 hB) J J J J J (fun q _ => ?_); obtain ⟨a3, q3⟩ := q; dsimp only; refine Qj (Qo (Qi J bWire J (.one J J J J .nil) J (Qj (X1 ?_ Qf))))
      refine Ops.litE 3 (m := 3) (n := 2) (cs := [adrF w.1, adrF w.2, adrF a1, adrF a2, adrF 0, adrF a3]) J J sWrs (.agg J J J J (.agg J J J J (.agg J J J J .nil))) (by decide) J J J ?_
      refine Qj (Qo (Qv J J J (Qj (Xy (hK _ _ ?_))))); exact Qr hM ([w, (a1, a2), (0, a3)], q3) J (QX J ⟨rfl, rfl, rfl, rfl, rfl, rfl, rfl, rfl, rfl, trivial⟩)
    refine Xk ?_ Qf
    refine Qe Zc (Yx B0 q1 hB) J J J J J (fun q _ => ?_); obtain ⟨a2, q2⟩ := q; dsimp only; refine Qj (Qo (Qi J bWire J (.one J J J J (.one J J J J .nil)) J (Qj (X1 ?_ ?_))))
    · refine Q6 (n := 2) J J J J J Xm J (Qj (Xk ?_ Qf)); refine Qe Zc (Yx B0 q2 hB) J J J J J (fun q _ => ?_); obtain ⟨a3, q3⟩ := q; dsimp only; refine Qj (Qo (Qi J bWire J (.one J J J J .nil) J (Qj (X1 ?_ Qf))))
      refine Ops.litE 3 (m := 3) (n := 2) (cs := [adrF w.1, adrF w.2, adrF a1, adrF a2, adrF 0, adrF a3]) J J sWrs (.agg J J J J (.agg J J J J (.agg J J J J .nil))) (by decide) J J J ?_
      refine Qj (Qo (Qv J J J (Qj (Xy (hK _ _ ?_))))); exact Qr hM ([w, (a1, a2), (0, a3)], q3) J (QX J ⟨rfl, rfl, rfl, rfl, rfl, rfl, rfl, rfl, rfl, trivial⟩)
    refine Xk ?_ Qf
    refine Qe Zc (Yx B0 q2 hB) J J J J J (fun q _ => ?_); obtain ⟨a3, q3⟩ := q; dsimp only; refine Qj (Qo (Qi J bWire J (.one J J J J .nil) J (Qj (XU (Q6 (n := 2) J J J J J Xm J (Qj (X1 ?_ Qf)))))))
    refine Ops.litE 3 (m := 3) (n := 2) (cs := [adrF w.1, adrF w.2, adrF a1, adrF a2, adrF 0, adrF a3]) J J sWrs (.agg J J J J (.agg J J J J (.agg J J J J .nil))) (by decide) J J J ?_
    refine Qj (Qo (Qv J J J (Qj (Xy (hK _ _ ?_))))); exact Qr hM ([w, (a1, a2), (0, a3)], q3) J (QX J ⟨rfl, rfl, rfl, rfl, rfl, rfl, rfl, rfl, rfl, trivial⟩)
  obtain ⟨ws, p⟩ := q; dsimp only at hq ⊢; refine Qw (Qx fun K hK => ?_); refine Qq J J J (Qq J J J (Qe goNext (Next_ok B0 p 4 (by decide) (by decide) hB) J J J J J (fun q _ => ?_))); obtain ⟨b2, p1⟩ := q; dsimp only; refine Qq J J J (YV [-1, 1048576, 1048577] rfl rfl sInts J ⟨rfl, rfl, rfl, rfl, rfl, rfl, trivial⟩ (by decide) J ?_); refine Qe goPick (Pick_ok B0 p1 [-1, 1048576, 1048577] (by decide) (by decide) hB) J J J J J (fun q _ => ?_); obtain ⟨b3, p2⟩ := q; dsimp only
  refine YV [bud, b2, b3] rfl rfl sInts J ⟨rfl, rfl, rfl, rfl, rfl, rfl, trivial⟩ (by decide) J ?_
  refine Qb J J sInts.und (List.length_map ..) J (Qq J J J (Qj (hK _ _ (Qz (Q5 ?_))))); clear hK K
  refine Xx (α := Nat × List Wr × Nat) (fun q => q.1 ≤ 3 ∧ q.2.1.length ≤ 3 + q.1)
    (fun q => [(3, .ct (intC bud)), (7, .own 0), (9, .own 1), (11, .own 2), (62, .ct (.fr (sliceT 1 lst))), (63, .ct (intC 4)), (64, .ct (intC i)), (14, .ct (rssC y)), (15, .own 3), (84, .ct (intsC [bud, b2, b3])), (85, .ct (intC 3)), (86, .ct (intC q.1))])
    (fun q => [(3, .row 37 2 (wrs q.2.1)), (2, .box 78 (codes B0 q.2.2)), (1, .box 39 (cnCs n)), (0, .box 37 (wrCs w))]) (fun q => 3 - q.1) (0, ws, p2) ⟨Nat.zero_le _, by dsimp only; omega⟩ (by exact QX J ⟨rfl, rfl, rfl, rfl, rfl, rfl, rfl, rfl, rfl, rfl, rfl, rfl, trivial⟩) ?_
  clear hq
  rintro ⟨j, v, p⟩ ⟨hj, hv⟩
  dsimp only at hj hv ⊢; refine Qw (Qx fun K hK => ?_); refine Qk ilss J J J J (Qj (hK _ _ (Qz (Qw ?_)))); clear hK K; refine Q2 J (fun h2 => ?_) (fun h2 => ?_); rotate_left
  · refine Qs (Qz (Qx fun K hK => ?_))
    refine Qk (iadd (by omega) (by omega)) J J J J ?_
    refine Qq J J J (Qj (hK _ _ (Q4 ?_))); clear hK K; refine Ql 3 (Q8 (i + 1, p) (by dsimp only; omega) (by dsimp only; omega) (by exact QX J ⟨rfl, rfl, rfl, rfl, rfl, rfl, by simp only [Int.natCast_add]; rfl, trivial⟩))
  refine Q1 (Qz (Qw (Q5 (Qw (Qx fun K hK => ?_)))))
  refine Qh J J J sInts (by omega) (X9 (by omega) (by omega)) J ?_
  refine XQ J J J lInt J (Qv J J J (Qj (hK _ _ (Qz (Qw ?_))))); clear hK K; refine Qx (fun K hK => ?_); refine Qq J J J (Qq J J J ?_); generalize [bud, b2, b3].getD (j : Int).toNat 0 = b; obtain ⟨al, e, hql, hA1, hA2, hSm⟩ := hAll b; refine QW goAll hA1 J J J J (Qq J J J (Q9 J J J J (Q9 J J J J (Qv J J J (Qv J J J (Qj (hK _ _ (Qz (Qw ?_))))))))); clear hK K; refine Qx (fun K hK => ?_); refine Qq J J J (Qq J J J (QW gorAll hA2 J J J J (Qq J J J (Q9 J J J J (Q9 J J J J (Qv J J J (Qv J J J (Qj (hK _ _ (Qz (Qw (Qw ?_)))))))))))); clear hK K; refine Qx (fun K hK => ?_); refine Qq J J J (Qq J J J (Qk ineq J J J J (Qq J J J (Q7 105 J (fun g => absurd J g) (fun _ => ?_))))); refine Qq J J J (Qq J J J (QW gorSame hSm J J J J (Qm J J J (QK J J J J (Qj (hK _ _ ?_)))))); clear hK K
  refine Qz (Xv J (Q1 (Qz (Qw (Xo (α := List Wr × Nat) (fun q => q.1.length ≤ 4 + j) (fun _ => [(3, .ct (intC bud)), (7, .own 0), (9, .own 1), (11, .own 2), (62, .ct (.fr (sliceT 1 lst))), (63, .ct (intC 4)), (64, .ct (intC i)), (14, .ct (rssC y)), (15, .own 3), (84, .ct (intsC [bud, b2, b3])), (85, .ct (intC 3)), (86, .ct (intC j)), (17, .ct (intC b))]) (fun q => [(3, .row 37 2 (wrs q.1)), (2, .box 78 (codes B0 q.2)), (1, .box 39 (cnCs n)), (0, .box 37 (wrCs w))]) (fun q hq => ?_) (fun KN hM => ?_)))))); rotate_left
  · refine Qw (Qx fun K hK => ?_); refine Qq J J J (Qb J J sCns.und (List.length_map ..) J (Qk igtr J J J J (Qj (hK _ _ (Qz ?_))))); clear hK K; refine Q2 J (fun h3 => ?_) (fun h3 => ?_)
    · refine Qx (fun K hK => ?_); refine Qq J J J (Qq J J J (Qq J J J (Qq J J J (Qb J J sCns.und (List.length_map ..) J (Qe goNext (NextA_ok B0 p al.length (by omega) (by omega) hB) J J J J J (fun r hr => ?_)))))); obtain ⟨k, p4⟩ := r; dsimp only at hr ⊢
      refine Qh J J J sCns (by omega) (cns_at (by omega) (by omega)) J ?_
      generalize al.getD k.toNat cn0 = z; refine Ops.fldF J J fCn0 J (XX (n := 2) J J J Xm J J (X6 (n := 2) J J sWrs J J (by decide) J ?_))
      refine Qt v.length (wrs (v ++ [z.wr])) J J J J sWrs (Zr v) J (by omega) (by omega) (wrs_snoc v z.wr) J ?_
      refine Qv J J J (Qj (hK _ _ ?_)); clear hK K; exact Qr hM (v ++ [z.wr], p4) (by simp; omega) (QX J ⟨rfl, rfl, rfl, rfl, rfl, rfl, rfl, rfl, rfl, rfl, rfl, rfl, rfl, trivial⟩)
    · refine Q1 ?_
      exact Qr hM (v, p) (by dsimp only; omega) (QX J ⟨rfl, rfl, rfl, rfl, rfl, rfl, rfl, rfl, rfl, rfl, rfl, rfl, rfl, trivial⟩)
  clear hSm hA1 hA2 hql hv; obtain ⟨v, p⟩ := q; dsimp only at hq ⊢; refine Qw (Qx fun K hK => ?_); refine Qq J J J (ZZ v.length J J J (by decide) (Zr v) sWrs.und J ?_); refine Qq J J J (Qj (hK _ _ (Qz (Q5 ?_)))); clear hK K
  refine Xx (α := Nat × Nat) (fun q => q.1 ≤ v.length)
    (fun q => [(3, .ct (intC bud)), (7, .own 0), (9, .own 1), (11, .own 2), (62, .ct (.fr (sliceT 1 lst))), (63, .ct (intC 4)), (64, .ct (intC i)), (14, .ct (rssC y)), (15, .own 3), (84, .ct (intsC [bud, b2, b3])), (85, .ct (intC 3)), (86, .ct (intC j)), (17, .ct (intC b)), (125, .own 3), (126, .ct (intC v.length)), (127, .ct (intC q.1))])
    (fun q => [(3, .row 37 2 (wrs v)), (2, .box 78 (codes B0 q.2)), (1, .box 39 (cnCs n)), (0, .box 37 (wrCs w))]) (fun q => v.length - q.1) (0, p) (Nat.zero_le _) (by exact QX J ⟨rfl, rfl, rfl, rfl, rfl, rfl, rfl, rfl, rfl, rfl, rfl, rfl, rfl, rfl, rfl, rfl, trivial⟩) ?_
  rintro ⟨k, p⟩ hk
  dsimp only at hk ⊢; refine Qw (Qx fun K hK => ?_); refine Qk ilss J J J J (Qj (hK _ _ (Qz (Qw ?_)))); clear hK K; refine Q2 J (fun h3 => ?_) (fun h3 => ?_); rotate_left
  · refine Qs (Qz (Qx fun K hK => ?_))
    refine Qk (iadd (by omega) (by omega)) J J J J ?_
    refine Qq J J J (Qj (hK _ _ (Q4 ?_))); clear hK K; refine Q8 (j + 1, v, p) (by dsimp only; omega) ⟨by dsimp only; omega, by dsimp only; omega⟩ (by exact QX J ⟨rfl, rfl, rfl, rfl, rfl, rfl, rfl, rfl, rfl, rfl, rfl, by simp only [Int.natCast_add]; rfl, trivial⟩)
  have e3 : (k : Int).toNat = k := Int.toNat_natCast k; refine Q1 (Qz (Qw (Q5 (Qw (Qx fun K hK => ?_)))))
  refine Xu v.length J J J (Zr v) J sWrs (by omega) (by omega) J ?_
  refine ldE wrCs wr0 wr_len J J J J J (by omega) Xm J ?_
  rw [e3]; generalize v.getD k wr0 = u; obtain ⟨s, t, hh, hsl, htl, hX1, hX2⟩ := hCr u; obtain ⟨co, ie, hsm, hC1, hC2⟩ := hCn u b; have hS1 := both_ids s hsl; have hS2 := both_ids t htl; refine Qg 4 J J zvWire J J J (Qa 2 J J J J J szWire J J (Qj (hK _ _ (Qz (Qw ?_))))); clear hK K; refine Qx (fun K hK => ?_); refine Qq J J J (Q6 (n := 2) J J J J J Xm J (QW goCrosses hX1 J J J J (Qq J J J (Q9 J J J J (Q9 J J J J (Q9 J J J J (Qv J J J (Qv J J J (Qv J J J (Qj (hK _ _ (Qz (Qw ?_))))))))))))); clear hK K; refine Qx (fun K hK => ?_); refine Qq J J J (Q6 (n := 2) J J J J J Xm J (QW gorCrosses hX2 J J J J (Qq J J J (Q9 J J J J (Q9 J J J J (Q9 J J J J (Qv J J J (Qv J J J (Qv J J J (Qj (hK _ _ (Qz (Qw ?_))))))))))))); clear hK K; refine Qx (fun K hK => ?_); refine Qq J J J (Q6 (n := 2) J J J J J Xm J (Qq J J J (QW goCount hC1 J J J J (Qq J J J (Q9 J J J J (Q9 J J J J (Qg 5 J J zvCn J J J (Qa 5 J J J J J szCn J J (Qv J J J (Qj (hK _ _ (Qz (Qw ?_))))))))))))); clear hK K; refine Qx (fun K hK => ?_)
  refine Qq J J J (Q6 (n := 2) J J J J J Xm J (Qq J J J (QW gorCount hC2 J J J J (Qq J J J (Q9 J J J J (Q9 J J J J (Qg 6 J J zvCn J J J (Qa 5 J J J J J szCn J J (Qv J J J (Qj (hK _ _ (Qz (Qw (Qw ?_)))))))))))))); clear hK K; refine Qx (fun K hK => ?_); refine Qq J J J (Qq J J J (Qk ineq J J J J (Qq J J J (Q7 162 J (fun g => absurd J g) (fun _ => ?_))))); refine Qq J J J (Qq J J J (QW gorSameIDs hS1 J J J J (Qm J J J (QK J J J J (Qq J J J (Qq J J J (Qq J J J (QW gorSameIDs hS2 J J J J (Qm J J J (QK J J J J (Qq J J J (Q6 (n := 5) J J J J J lCn J (Q6 (n := 5) J J J J J lCn J (neCn co co J J J J J (QK J J J J (Qq J J J (Q7 179 J (fun g => absurd J g) (fun _ => ?_)))))))))))))))))); refine Qq J J J (Qq J J J (Qk ineq J J J J (QK J J J J (Qj (hK _ _ (Qz ?_)))))); clear hK K; refine Q2 J (fun g => absurd J g) (fun _ => ?_); clear hX1 hX2 hC1 hC2 hS1 hS2; refine Q1 (Qz (Qw (Qx fun K hK => ?_))); refine Q6 (n := 5) J J J J J lCn J (Qg 7 J J zvCn J J J (Qa 5 J J J J J szCn J J (Qj (hK _ _ (Qz (Qw ?_)))))); clear hK K
  refine Xo (α := Int × Nat) (fun q => -10 ≤ q.1 ∧ q.1 ≤ 200000) (fun _ => [(3, .ct (intC bud)), (7, .own 0), (9, .own 1), (11, .own 2), (62, .ct (.fr (sliceT 1 lst))), (63, .ct (intC 4)), (64, .ct (intC i)), (14, .ct (rssC y)), (15, .own 3), (84, .ct (intsC [bud, b2, b3])), (85, .ct (intC 3)), (86, .ct (intC j)), (17, .ct (intC b)), (125, .own 3), (126, .ct (intC v.length)), (127, .ct (intC k)), (27, .ct (iksC s)), (28, .ct (iksC t)), (32, .own 6), (34, .own 7)]) (fun q => [(7, .box 39 (cnCs {co with hi := q.1})), (6, .box 39 (cnCs co)), (5, .box 39 (cnCs co)), (4, .box 37 (wrCs u)), (3, .row 37 2 (wrs v)), (2, .box 78 (codes B0 q.2)), (1, .box 39 (cnCs n)), (0, .box 37 (wrCs w))]) (fun q hq1 => ?_) (fun KN hM => ?_); rotate_left
  · obtain ⟨_, _, hhi⟩ := hsm; refine Yq mixed [3, 7] (.p 0 (.p 2 (.m 1 (.a 3 (.p 4 (.p 5 (.p 6 (.a 7 .done .non)))) .non) (.a 3 (.p 4 (.f 1 (.p 5 (.p 6 (.a 7 .done .non))))) .non)))) (by kernel_rfl) (fun K hK => ?_); refine Qo (QV J J J fCn3 J (Qj (Qo (Qq J J J (Qj (X1 ?_ ?_))))))
    · refine QY J J J J J lInt J (Qj (Xk ?_ Qf)); refine Qe goNext (Next_ok B0 p 3 (by decide) (by decide) hB) J J J J J (fun q hd => ?_); obtain ⟨dd, q1⟩ := q; dsimp only at hd ⊢; refine Qj (Qo (Qk (isub (by omega) (by omega)) J J J J ?_)); refine Qj (Qo (Qk (iadd (by (try dsimp only); omega) (by (try dsimp only); omega)) J J J J ?_)); refine Qj (Qo (QV J J J fCn3 J (Qj (Xk ?_ Qf)))); refine XY J J J J J zInt (Nat.le_of_ble_eq_true J) (Qj (Xy (hK _ _ ?_))); exact Qr hM (co.hi + (dd - 1), q1) (by dsimp only; omega) (QX J ⟨rfl, rfl, rfl, rfl, rfl, rfl, rfl, rfl, rfl, rfl, rfl, rfl, rfl, rfl, rfl, rfl, rfl, rfl, rfl, rfl, trivial⟩)
    refine Xk ?_ Qf
    refine Qe goNext (Next_ok B0 p 3 (by decide) (by decide) hB) J J J J J (fun q hd => ?_); obtain ⟨dd, q1⟩ := q; dsimp only at hd ⊢; refine Qj (Qo (Qk (isub (by omega) (by omega)) J J J J ?_)); refine Qj (XU (QY J J J J J lInt J (Qj (Qo (Qk (iadd (by (try dsimp only); omega) (by (try dsimp only); omega)) J J J J ?_))))); refine Qj (Qo (QV J J J fCn3 J (Qj (Xk ?_ Qf)))); refine XY J J J J J zInt (Nat.le_of_ble_eq_true J) (Qj (Xy (hK _ _ ?_))); exact Qr hM (co.hi + (dd - 1), q1) (by dsimp only; omega) (QX J ⟨rfl, rfl, rfl, rfl, rfl, rfl, rfl, rfl, rfl, rfl, rfl, rfl, rfl, rfl, rfl, rfl, rfl, rfl, rfl, rfl, trivial⟩)
  obtain ⟨d1, p⟩ := q; dsimp only at hq1 ⊢; refine Qw (Xo (α := Int × Nat) (fun q => -10 ≤ q.1 ∧ q.1 ≤ 200000) (fun _ => [(3, .ct (intC bud)), (7, .own 0), (9, .own 1), (11, .own 2), (62, .ct (.fr (sliceT 1 lst))), (63, .ct (intC 4)), (64, .ct (intC i)), (14, .ct (rssC y)), (15, .own 3), (84, .ct (intsC [bud, b2, b3])), (85, .ct (intC 3)), (86, .ct (intC j)), (17, .ct (intC b)), (125, .own 3), (126, .ct (intC v.length)), (127, .ct (intC k)), (27, .ct (iksC s)), (28, .ct (iksC t)), (32, .own 6), (34, .own 7)]) (fun q => [(7, .box 39 (cnCs {co with hi := d1, lo := q.1})), (6, .box 39 (cnCs co)), (5, .box 39 (cnCs co)), (4, .box 37 (wrCs u)), (3, .row 37 2 (wrs v)), (2, .box 78 (codes B0 q.2)), (1, .box 39 (cnCs n)), (0, .box 37 (wrCs w))]) (fun q hq2 => ?_) (fun KN hM => ?_)); rotate_left
  · obtain ⟨_, hlo, _⟩ := hsm; refine Yq mixed [3, 7] (.p 0 (.p 2 (.m 1 (.a 3 (.p 4 (.p 5 (.p 6 (.a 7 .done .non)))) .non) (.a 3 (.p 4 (.f 1 (.p 5 (.p 6 (.a 7 .done .non))))) .non)))) (by kernel_rfl) (fun K hK => ?_); refine Qo (QV J J J fCn2 J (Qj (Qo (Qq J J J (Qj (X1 ?_ ?_))))))
    · refine QY J J J J J lInt J (Qj (Xk ?_ Qf)); refine Qe goNext (Next_ok B0 p 3 (by decide) (by decide) hB) J J J J J (fun q hd => ?_); obtain ⟨dd, q1⟩ := q; dsimp only at hd ⊢; refine Qj (Qo (Qk (isub (by omega) (by omega)) J J J J ?_)); refine Qj (Qo (Qk (iadd (by (try dsimp only); omega) (by (try dsimp only); omega)) J J J J ?_)); refine Qj (Qo (QV J J J fCn2 J (Qj (Xk ?_ Qf)))); refine XY J J J J J zInt (Nat.le_of_ble_eq_true J) (Qj (Xy (hK _ _ ?_))); exact Qr hM (co.lo + (dd - 1), q1) (by dsimp only; omega) (QX J ⟨rfl, rfl, rfl, rfl, rfl, rfl, rfl, rfl, rfl, rfl, rfl, rfl, rfl, rfl, rfl, rfl, rfl, rfl, rfl, rfl, trivial⟩)
    refine Xk ?_ Qf
    refine Qe goNext (Next_ok B0 p 3 (by decide) (by decide) hB) J J J J J (fun q hd => ?_); obtain ⟨dd, q1⟩ := q; dsimp only at hd ⊢; refine Qj (Qo (Qk (isub (by omega) (by omega)) J J J J ?_)); refine Qj (XU (QY J J J J J lInt J (Qj (Qo (Qk (iadd (by (try dsimp only); omega) (by (try dsimp only); omega)) J J J J ?_))))); refine Qj (Qo (QV J J J fCn2 J (Qj (Xk ?_ Qf)))); refine XY J J J J J zInt (Nat.le_of_ble_eq_true J) (Qj (Xy (hK _ _ ?_))); exact Qr hM (co.lo + (dd - 1), q1) (by dsimp only; omega) (QX J ⟨rfl, rfl, rfl, rfl, rfl, rfl, rfl, rfl, rfl, rfl, rfl, rfl, rfl, rfl, rfl, rfl, rfl, rfl, rfl, rfl, trivial⟩)
  obtain ⟨d2, p⟩ := q; dsimp only at hq2 ⊢; refine Qw (Qx fun K hK => ?_); refine Q6 (n := 5) J J J J J lCn J (Q6 (n := 5) J J J J J lCn J (Q6 (n := 5) J J J J J lCn J (Ops.lit (m := 3) (n := 5) (cs := cnCs co ++ cnCs {co with hi := d1, lo := d2} ++ cnCs n) J J sCns (.agg J J J J (.agg J J J J (.agg J J J J .nil))) (by decide) J ?_))); refine Qb J J sCns.und J J (Qq J J J (Qj (hK _ _ (Qz (Q5 ?_))))); clear hK K; obtain ⟨zs, hzs⟩ : ∃ zs : List Cn, zs = [co, {co with hi := d1, lo := d2}, n] := ⟨_, rfl⟩
  have hzl : zs.length = 3 := by rw [hzs]; rfl
  have hzr : ∀ c ∈ zs, (-9223372036854775808 ≤ c.lo ∧ c.lo < 9223372036854775808) ∧ (-9223372036854775808 ≤ c.hi ∧ c.hi < 9223372036854775808) ∧ (-9223372036854775808 ≤ c.se ∧ c.se < 9223372036854775808) := fun c hc => by
    obtain ⟨hs1, hs2, hs3⟩ := hsm; rw [hzs] at hc; rcases List.mem_cons.1 hc with rfl | hc
    · exact ⟨by omega, by omega, by omega⟩
    · rcases List.mem_cons.1 hc with rfl | hc
      · exact ⟨by dsimp only; omega, by dsimp only; omega, by dsimp only; omega⟩
      · obtain rfl := List.mem_singleton.1 hc; exact ⟨hn.2.1, hn.2.2, hn.1⟩
  refine Xx (α := Nat) (fun m => m ≤ 3)
    (fun m => [(3, .ct (intC bud)), (7, .own 0), (9, .own 1), (11, .own 2), (62, .ct (.fr (sliceT 1 lst))), (63, .ct (intC 4)), (64, .ct (intC i)), (14, .ct (rssC y)), (15, .own 3), (84, .ct (intsC [bud, b2, b3])), (85, .ct (intC 3)), (86, .ct (intC j)), (17, .ct (intC b)), (125, .own 3), (126, .ct (intC v.length)), (127, .ct (intC k)), (27, .ct (iksC s)), (28, .ct (iksC t)), (202, .ct (cnsC zs)), (203, .ct (intC 3)), (204, .ct (intC m))])
    (fun m => [(7, .box 39 (cnCs {co with hi := d1, lo := d2})), (6, .box 39 (cnCs co)), (5, .box 39 (cnCs co)), (4, .box 37 (wrCs u)), (3, .row 37 2 (wrs v)), (2, .box 78 (codes B0 p)), (1, .box 39 (cnCs n)), (0, .box 37 (wrCs w))]) (fun m => 3 - m) 0 (Nat.zero_le _) (by rw [hzs]; exact QX J ⟨rfl, rfl, rfl, rfl, rfl, rfl, rfl, rfl, rfl, rfl, rfl, rfl, rfl, rfl, rfl, rfl, rfl, rfl, rfl, rfl, rfl, trivial⟩) ?_
  clear hzs; intro m hm
  try dsimp only at hm ⊢
  refine Qw (Qx fun K hK => ?_); refine Qk ilss J J J J (Qj (hK _ _ (Qz (Qw ?_)))); clear hK K; refine Q2 J (fun h4 => ?_) (fun h4 => ?_); rotate_left
  · refine Qs (Qz (Qx fun K hK => ?_))
    refine Qk (iadd (by omega) (by omega)) J J J J ?_
    refine Qq J J J (Qj (hK _ _ (Q4 ?_))); clear hK K; refine Ql 7 (Ql 6 (Ql 5 (Ql 4 (Q8 (k + 1, p) (by dsimp only; omega) (by dsimp only; omega) (by exact QX J ⟨rfl, rfl, rfl, rfl, rfl, rfl, rfl, rfl, rfl, rfl, rfl, rfl, rfl, rfl, rfl, by simp only [Int.natCast_add]; rfl, trivial⟩)))))
  have e4 : (m : Int).toNat = m := Int.toNat_natCast m; have hz := hzr _ (getD_memA (z := cn0) (show m < zs.length by omega)); refine Q1 (Qz (Qw (Q5 (Qw (Qx fun K hK => ?_)))))
  refine Qh J J J sCns (by omega) (cns_at (by omega) (by omega)) J ?_
  rw [e4]; generalize zs.getD m cn0 = z at hz; obtain ⟨r1, hH1, hH2⟩ := hHo b z s t hsl htl; obtain ⟨r2, hH3, hH4⟩ := hHo b z t s htl hsl; obtain ⟨f1, f2, ue, hR1, hR2, hE1, hE2⟩ := both_rt z hz.1 hz.2.1 hz.2.2; refine XX (n := 5) J J J lCn J J (Qg 8 J J zvCn J J J (Qa 5 J J J J J szCn J J (Qj (hK _ _ (Qz (Qw (Qw ?_))))))); clear hK K; refine Xw mixed 28 (.p 0 (.p 1 (.p 3 (.p 4 (.p 6 (.p 7 (.p 9 (.p 10 (.f 2 (.f 8 (.m 5 (.m 11 (.p 12 (.p 13 (.p 14 (.p 15 (.p 17 (.p 18 (.p 20 (.p 21 (.p 23 (.p 24 (.f 16 (.f 22 (.m 19 (.m 25 (.p 26 (.p 27 .done)))))))))))))))))))))))))))) (by kernel_rfl) (fun K hK => ?_); refine Qq J J J (Qq J J J (Qq J J J (Qq J J J (Qq J J J (Qq J J J (Qq J J J (Qq J J J (Q6 (n := 5) J J J J J lCn J (Q6 (n := 5) J J J J J lCn J (QW goHolds hH1 J J J J ?_)))))))))); skip; refine QW gorHolds hH2 J J J J (Ops.bne J J J uBool J (Qq J J J (Q7 221 J (fun g => absurd J g) (fun _ => ?_)))); refine Qq J J J (Qq J J J (Qq J J J (Qq J J J (Qq J J J (Qq J J J (Qq J J J (Qq J J J (Q6 (n := 5) J J J J J lCn J (Q6 (n := 5) J J J J J lCn J (QW goHolds hH3 J J J J ?_)))))))))); skip; refine QW gorHolds hH4 J J J J (Ops.bne J J J uBool J (QK J J J J (Qj (hK _ _ (Qz ?_))))); clear hK K; refine Q2 J (fun g => absurd J g) (fun _ => ?_)
  refine Q1 (Qz (Qw (Qx fun K hK => ?_))); refine Q6 (n := 5) J J J J J lCn J (QW goRate hR1 J J J J (Qq J J J (Q9 J J J J (Q9 J J J J (Q9 J J J J (Qg 9 J J zvFrac J J J (Qg 10 J J zvFrac J J J (Qa 3 J J J J J szFrac J J (Qa 3 J J J J J szFrac J J (Qv J J J (Qj (hK _ _ (Qz (Qw ?_)))))))))))))); clear hK K; refine Qx (fun K hK => ?_); refine Q6 (n := 5) J J J J J lCn J (QW gorRate hR2 J J J J (Qq J J J (Q9 J J J J (Q9 J J J J (Q9 J J J J (Qg 11 J J zvFrac J J J (Qg 12 J J zvFrac J J J (Qa 3 J J J J J szFrac J J (Qa 3 J J J J J szFrac J J (Qv J J J (Qj (hK _ _ (Qz (Qw ?_)))))))))))))); clear hK K; refine Qx (fun K hK => ?_); refine Q6 (n := 3) J J J J J Xa J (Q6 (n := 3) J J J J J Xa J (QW goEqual hE1 J J J J (Qm J J J (Qq J J J (Q6 (n := 3) J J J J J Xa J (Q6 (n := 3) J J J J J Xa J (QW goEqual hE2 J J J J (Qm J J J (QK J J J J (Qq J J J (Qq J J J (Qq J J J (Qk ineq J J J J (QK J J J J (Qj (hK _ _ (Qz ?_))))))))))))))))); clear hK K; refine Q2 J (fun g => absurd J g) (fun _ => ?_); refine Q1 (Qz (Qx fun K hK => ?_))
  refine Qk (iadd (by omega) (by omega)) J J J J ?_
  refine Qq J J J (Qj (hK _ _ (Q4 ?_))); clear hK K; refine Ql 12 (Ql 11 (Ql 10 (Ql 9 (Ql 8 (Q8 (m + 1) (by omega) (by omega) (by exact QX J ⟨rfl, rfl, rfl, rfl, rfl, rfl, rfl, rfl, rfl, rfl, rfl, rfl, rfl, rfl, rfl, rfl, rfl, rfl, rfl, rfl, by simp only [Int.natCast_add]; rfl, trivial⟩))))))
end Go.Proofs.YtlkdkbdgnjcopaaGreat
namespace Go.Proofs.YtlkdkbdgnjcopaaGreat
open Go.Own Go.Limbs
section
variable {H : Type} {enc : TypeId × Value → H} {P : Program} {w : World} {base : Nat} {spare : Nat → Bool} {held : Bool}
theorem slice_inS {α : Type} {t e : TypeId} {n fuel : Nat} {cs0 : List Value} {x : DataW H × List MemPlace} (ht : P.underlying t = some (.slice e)) (hn : P.cellsOf e = n) (hn0 : 0 < n) (f : α → List CT) (hf : ∀ z, (f z).length = n) (good : α → Prop)
    (hE : ∀ m cs y, DataW.trod enc P w base spare held m e cs = some y → cs.length = n → ∃ z, cells (fun _ => True) w (f z) cs ∧ good z)
    (h : DataW.trod enc P w base spare held fuel t cs0 = some x) : ∃ (v : Value) (zs : List α), cs0 = [v] ∧ zs.length ≤ 9223372036854775807 ∧ (∀ z ∈ zs, good z) ∧ (CT.fr (sliceT n (zs.map f))).p (fun _ => True) w v ∧ ∀ N, (∀ q ∈ x.1.weights P t, q ≤ N) → zs.length * P.bytesOf e ≤ N := by
  rcases DataW.trod_slice ht h with ⟨h0, _⟩ | ⟨a, len, cap, elems, rest, m, _, rfl, rfl, _, hl, hm, hlen, hel, _⟩
  · exact ⟨_, [], h0, Nat.zero_le _, (fun z hz => nomatch hz), nil_is n _ w, fun N _ => by simp⟩
  rw [hn] at hel
  have key : ∀ k, k ≤ len → ∃ (zs : List α) (vs : List Value), zs.length = k ∧ (∀ z ∈ zs, good z) ∧ cells (fun _ => True) w (zs.map f).flatten vs ∧ vs.length = k * n ∧ ∀ i u, vs[i]? = some u → w.cell? (a.add i) = some u := by
    intro k
    induction k with
    | zero => intro _; exact ⟨[], [], rfl, (fun z hz => nomatch hz), trivial, (Nat.zero_mul n).symm, fun i u hu => by simp at hu⟩
    | succ k ih =>
      intro hk; obtain ⟨zs, vs, e1, e2, e3, e4, e5⟩ := ih (by omega); have h1 := hel k (by omega); rw [List.getElem?_eq_getElem (show k < elems.length by omega), Option.bind_eq_some_iff] at h1; obtain ⟨cs, h2, h3⟩ := h1; obtain ⟨_, h4, h5⟩ := World.cells?_some h2; obtain ⟨z, h6, h7⟩ := hE _ _ _ h3 h4; refine ⟨zs ++ [z], vs ++ cs, by simp [e1], ?_, ?_, by rw [List.length_append, e4, h4, Nat.succ_mul], ?_⟩
      · intro y hy; rcases List.mem_append.1 hy with hy | hy
        · exact e2 y hy
        · rw [List.mem_singleton.1 hy]; exact h7
      · rw [List.map_append, List.flatten_append]
        refine cells.append e3 ?_
        simpa using h6
      · intro i u hu; rcases Nat.lt_or_ge i (k * n) with hi | hi
        · rw [List.getElem?_append_left (by omega)] at hu; exact e5 i u hu
        · rw [List.getElem?_append_right (by omega), e4] at hu
          have hlt : i - k * n < n := by
            have := (List.getElem?_eq_some_iff.1 hu).1; omega
          have := h5 (i - k * n) hlt; rw [Addr.add_add, show k * n + (i - k * n) = i by omega] at this; rw [this, hu]
  obtain ⟨zs, vs, e1, e2, e3, e4, e5⟩ := key len (Nat.le_refl _)
  have hmx : maxLen = 9223372036854775807 := by decide
  have hwt : ∀ N, (∀ q ∈ (DataW.slice (elems.map (·.1)) (rest.map (·.1))).weights P t, q ≤ N) → zs.length * P.bytesOf e ≤ N := fun N hN => by
    have h9 := hN (((elems.map (·.1)).length + (rest.map (·.1)).length) * P.bytesOf e) (by simp [DataW.weights, ht]); refine Nat.le_trans (Nat.mul_le_mul_right _ ?_) h9; rw [e1, List.length_map, List.length_map]; omega
  refine ⟨_, zs, rfl, by omega, e2, ⟨some a, cap, by rw [List.length_map, e1], by rw [List.length_map, e1]; exact hl, hm, fun y hy => by obtain ⟨z, _, rfl⟩ := List.mem_map.1 hy; exact hf z, fun hne => ?_⟩, hwt⟩
  have hpos : 0 < len := by
    rcases Nat.eq_zero_or_pos len with h0 | h0
    · rw [h0] at e1; rw [List.length_eq_zero_iff.1 e1] at hne; exact absurd J hne
    · exact h0
  have hvl : 0 < vs.length := by rw [e4]; exact Nat.mul_pos hpos hn0
  have h0 := e5 0 _ (List.getElem?_eq_getElem hvl); obtain ⟨b, o, sp⟩ := a
  have hsp : sp = none ∧ b < w.heap.size := by
    simp only [Addr.add, if_true, World.cell?] at h0
    cases e : w.heap[b]? with
    | none => rw [e] at h0; cases h0
    | some ob =>
      rw [e] at h0
      cases ob with
      | cells c t r =>
        refine ⟨?_, ZK e⟩
        cases sp with
        | none => rfl
        | some q => simp at h0
      | _ => cases h0
  obtain ⟨rfl, hb⟩ := hsp; refine ⟨b, o, rfl, trivial, hb, vs, e3, fun i u hu => ?_⟩; have h1 := e5 i u hu
  have h3 : (⟨b, o, none⟩ : Addr).add i = ⟨b, o + i, none⟩ := by
    unfold Addr.add; split
    · rename_i h; subst h; rfl
    · rfl
  rw [h3] at h1; exact h1
theorem wf_u8 {a : Int} (h : (Lit.int .u8 a).wf = true) : 0 ≤ a ∧ a < 256 := by
  simp only [Lit.wf, Bool.and_eq_true, decide_eq_true_eq] at h; exact ⟨h.1, by have := h.2; rw [show IntKind.u8.max = 255 from rfl] at this; omega⟩
theorem wf_u32 {a : Int} (h : (Lit.int .u32 a).wf = true) : 0 ≤ a ∧ a < 4294967296 := by
  simp only [Lit.wf, Bool.and_eq_true, decide_eq_true_eq] at h; exact ⟨h.1, by have := h.2; rw [show IntKind.u32.max = 4294967295 from rfl] at this; omega⟩
theorem bytes_inS {t e : TypeId} {fuel : Nat} {cs0 : List Value} {x : DataW H × List MemPlace} (ht : P.underlying t = some (.slice e)) (he : P.underlying e = some (.int .u8)) (hn : P.cellsOf e = 1)
    (h : DataW.trod enc P w base spare held fuel t cs0 = some x) : ∃ (v : Value) (zs : List Int), cs0 = [v] ∧ (∀ z ∈ zs, 0 ≤ z ∧ z < 256) ∧ (bytesC zs).p (fun _ => True) w v := by
  obtain ⟨v, zs, h1, _, h2, h3, _⟩ := slice_inS ht hn (by decide) (fun z : Int => [CT.ex (Value.int .u8 z)]) (fun _ => rfl) (fun z => 0 ≤ z ∧ z < 256) (fun m cs y hy _ => by
    obtain ⟨z, rfl, _, hw⟩ := DataW.trod_int he hy
    exact ⟨z, ⟨rfl, trivial⟩, wf_u8 hw⟩) h
  exact ⟨v, zs, h1, h2, h3⟩
end
theorem Xl {α : Type} {n : Nat} (cs : List α) (h : cs.length = n + 1) : ∃ a r, cs = a :: r ∧ r.length = n := by
  cases cs with
  | nil => simp at h
  | cons a r => exact ⟨a, r, rfl, by simpa using h⟩
theorem agg_inS {P : Program} {w : World} {r : Reach} {b0 : Nat} {t : TypeId} {fs : Array Field} {v : Value} (hu : P.underlying t = some (.struct fs)) (h : Value.okWide P w r b0 t v) : ∃ cs : List Value, v = .agg cs.toArray := by
  simp only [Value.okWide, hu] at h; obtain ⟨cs, h1, _, _⟩ := h; exact ⟨cs.toList, by simpa using h1⟩
theorem adr_in {n : Int} (h : (Lit.int .u32 n).wf = true) : ∃ a : Fin 4294967296, Value.int .u32 n = .int .u32 (a.val : Int) := by
  have := wf_u32 h; exact ⟨⟨n.toNat, by omega⟩, by show _ = Value.int .u32 ((n.toNat : Nat) : Int); rw [Int.toNat_of_nonneg this.1]⟩
section
variable {H : Type} {enc : TypeId × Value → H} {w : World} {base : Nat} {spare : Nat → Bool} {held : Bool} {fuel : Nat} {cs : List Value} {x : DataW H × List MemPlace}
theorem ans_cells (hy : DataW.trod enc Tryz.prog w base spare held fuel 33 cs = some x) : ∃ (f : Fin 4294967296) (k c l i q : Int), cs = [.int .u32 (f.val : Int), .int .i64 k, .int .i64 c, .int .i64 l, .int .i64 i, .int .i64 q] := by
  obtain ⟨xs, k, rfl, rfl, hl, h2, h3⟩ := DataW.trod_struct Tryz.underlying33 hy; have hl : cs.length = 6 := hl.trans (by kernel_rfl); have f0 := h3 0 _ J; rw [List.getElem?_eq_getElem (show 0 < xs.length by rw [h2]; decide)] at f0; have f1 := h3 1 _ J; rw [List.getElem?_eq_getElem (show 1 < xs.length by rw [h2]; decide)] at f1; have f2 := h3 2 _ J; rw [List.getElem?_eq_getElem (show 2 < xs.length by rw [h2]; decide)] at f2; have f3 := h3 3 _ J; rw [List.getElem?_eq_getElem (show 3 < xs.length by rw [h2]; decide)] at f3; have f4 := h3 4 _ J; rw [List.getElem?_eq_getElem (show 4 < xs.length by rw [h2]; decide)] at f4; have f5 := h3 5 _ J; rw [List.getElem?_eq_getElem (show 5 < xs.length by rw [h2]; decide)] at f5; obtain ⟨c0, r0, rfl, hl0⟩ := Xl (n := 5) cs hl; obtain ⟨c1, r1, rfl, hl1⟩ := Xl (n := 4) r0 hl0; obtain ⟨c2, r2, rfl, hl2⟩ := Xl (n := 3) r1 hl1; obtain ⟨c3, r3, rfl, hl3⟩ := Xl (n := 2) r2 hl2; obtain ⟨c4, r4, rfl, hl4⟩ := Xl (n := 1) r3 hl3; obtain ⟨c5, r5, rfl, hl5⟩ := Xl (n := 0) r4 hl4; obtain rfl := List.eq_nil_of_length_eq_zero hl5; rw [show Tryz.prog.cellsOf _ = 1 from by kernel_rfl] at f0 f1 f2 f3 f4 f5; obtain ⟨z0, e0, _, w0⟩ := DataW.trod_int Tryz.underlying27 f0
  injection e0 with e0 _
  have e0 : c0 = .int _ z0 := e0; subst e0; obtain ⟨z1, e1, _, w1⟩ := DataW.trod_int Tryz.underlying3 f1
  injection e1 with e1 _
  have e1 : c1 = .int _ z1 := e1; subst e1; obtain ⟨z2, e2, _, w2⟩ := DataW.trod_int Tryz.underlying3 f2
  injection e2 with e2 _
  have e2 : c2 = .int _ z2 := e2; subst e2; obtain ⟨z3, e3, _, w3⟩ := DataW.trod_int Tryz.underlying3 f3
  injection e3 with e3 _
  have e3 : c3 = .int _ z3 := e3; subst e3; obtain ⟨z4, e4, _, w4⟩ := DataW.trod_int Tryz.underlying3 f4
  injection e4 with e4 _
  have e4 : c4 = .int _ z4 := e4; subst e4; obtain ⟨z5, e5, _, w5⟩ := DataW.trod_int Tryz.underlying3 f5
  injection e5 with e5 _
  have e5 : c5 = .int _ z5 := e5; subst e5; obtain ⟨a, ha⟩ := adr_in w0; exact ⟨a, z1, z2, z3, z4, z5, by rw [ha]⟩
theorem res_cells (hy : DataW.trod enc Tryz.prog w base spare held fuel 35 cs = some x) : ∃ r : Rs, cells (fun _ => True) w (rsCs r) cs := by
  obtain ⟨xs, k, rfl, rfl, hl, h2, h3⟩ := DataW.trod_struct Tryz.underlying35 hy; have hl : cs.length = 17 := hl.trans (by kernel_rfl); have f0 := h3 0 _ J; rw [List.getElem?_eq_getElem (show 0 < xs.length by rw [h2]; decide)] at f0; have f1 := h3 1 _ J; rw [List.getElem?_eq_getElem (show 1 < xs.length by rw [h2]; decide)] at f1; have f2 := h3 2 _ J; rw [List.getElem?_eq_getElem (show 2 < xs.length by rw [h2]; decide)] at f2; have f3 := h3 3 _ J; rw [List.getElem?_eq_getElem (show 3 < xs.length by rw [h2]; decide)] at f3; have f4 := h3 4 _ J; rw [List.getElem?_eq_getElem (show 4 < xs.length by rw [h2]; decide)] at f4; have f5 := h3 5 _ J; rw [List.getElem?_eq_getElem (show 5 < xs.length by rw [h2]; decide)] at f5; have f6 := h3 6 _ J; rw [List.getElem?_eq_getElem (show 6 < xs.length by rw [h2]; decide)] at f6; have f7 := h3 7 _ J; rw [List.getElem?_eq_getElem (show 7 < xs.length by rw [h2]; decide)] at f7; have f8 := h3 8 _ J; rw [List.getElem?_eq_getElem (show 8 < xs.length by rw [h2]; decide)] at f8; have f9 := h3 9 _ J; rw [List.getElem?_eq_getElem (show 9 < xs.length by rw [h2]; decide)] at f9; have f10 := h3 10 _ J; rw [List.getElem?_eq_getElem (show 10 < xs.length by rw [h2]; decide)] at f10; have f11 := h3 11 _ J; rw [List.getElem?_eq_getElem (show 11 < xs.length by rw [h2]; decide)] at f11; obtain ⟨c0, r0, rfl, hl0⟩ := Xl (n := 16) cs hl; obtain ⟨c1, r1, rfl, hl1⟩ := Xl (n := 15) r0 hl0; obtain ⟨c2, r2, rfl, hl2⟩ := Xl (n := 14) r1 hl1
  obtain ⟨c3, r3, rfl, hl3⟩ := Xl (n := 13) r2 hl2; obtain ⟨c4, r4, rfl, hl4⟩ := Xl (n := 12) r3 hl3; obtain ⟨c5, r5, rfl, hl5⟩ := Xl (n := 11) r4 hl4; obtain ⟨c6, r6, rfl, hl6⟩ := Xl (n := 10) r5 hl5; obtain ⟨c7, r7, rfl, hl7⟩ := Xl (n := 9) r6 hl6; obtain ⟨c8, r8, rfl, hl8⟩ := Xl (n := 8) r7 hl7; obtain ⟨c9, r9, rfl, hl9⟩ := Xl (n := 7) r8 hl8; obtain ⟨c10, r10, rfl, hl10⟩ := Xl (n := 6) r9 hl9; obtain ⟨c11, r11, rfl, hl11⟩ := Xl (n := 5) r10 hl10; obtain ⟨c12, r12, rfl, hl12⟩ := Xl (n := 4) r11 hl11; obtain ⟨c13, r13, rfl, hl13⟩ := Xl (n := 3) r12 hl12; obtain ⟨c14, r14, rfl, hl14⟩ := Xl (n := 2) r13 hl13; obtain ⟨c15, r15, rfl, hl15⟩ := Xl (n := 1) r14 hl14; obtain ⟨c16, r16, rfl, hl16⟩ := Xl (n := 0) r15 hl15; obtain rfl := List.eq_nil_of_length_eq_zero hl16; rw [show Tryz.prog.cellsOf _ = 1 from by kernel_rfl] at f0 f1 f2 f3 f4 f5 f6 f7 f8 f9 f10; rw [show Tryz.prog.cellsOf _ = 6 from by kernel_rfl] at f11; obtain ⟨z0, e0, _, w0⟩ := DataW.trod_int Tryz.underlying3 f0
  injection e0 with e0 _
  have e0 : c0 = .int _ z0 := e0; subst e0; obtain ⟨z1, e1, _, w1⟩ := DataW.trod_int Tryz.underlying3 f1
  injection e1 with e1 _
  have e1 : c1 = .int _ z1 := e1; subst e1; obtain ⟨z2, e2, _, w2⟩ := DataW.trod_int Tryz.underlying3 f2
  injection e2 with e2 _
  have e2 : c2 = .int _ z2 := e2; subst e2; obtain ⟨z3, e3, _, w3⟩ := DataW.trod_int Tryz.underlying3 f3
  injection e3 with e3 _
  have e3 : c3 = .int _ z3 := e3; subst e3; obtain ⟨z4, e4, _, w4⟩ := DataW.trod_int Tryz.underlying27 f4
  injection e4 with e4 _
  have e4 : c4 = .int _ z4 := e4; subst e4; obtain ⟨z5, e5, _, w5⟩ := DataW.trod_int Tryz.underlying3 f5
  injection e5 with e5 _
  have e5 : c5 = .int _ z5 := e5; subst e5; obtain ⟨z6, e6, _, w6⟩ := DataW.trod_int Tryz.underlying3 f6
  injection e6 with e6 _
  have e6 : c6 = .int _ z6 := e6; subst e6; obtain ⟨z7, e7, _, w7⟩ := DataW.trod_int Tryz.underlying3 f7
  injection e7 with e7 _
  have e7 : c7 = .int _ z7 := e7; subst e7; obtain ⟨z8, e8, _⟩ := DataW.trod_bool Tryz.underlying4 f8
  injection e8 with e8 _
  have e8 : c8 = .bool z8 := e8; subst e8; obtain ⟨z9, e9, _⟩ := DataW.trod_bool Tryz.underlying4 f9
  injection e9 with e9 _
  have e9 : c9 = .bool z9 := e9; subst e9; obtain ⟨z10, e10, _, w10⟩ := DataW.trod_int Tryz.underlying3 f10
  injection e10 with e10 _
  have e10 : c10 = .int _ z10 := e10; subst e10; obtain ⟨a, ha⟩ := adr_in w4; obtain ⟨fa, g1, g2, g3, g4, g5, hg⟩ := ans_cells f11; have hg : [c11, c12, c13, c14, c15, c16] = [.int .u32 (fa.val : Int), .int .i64 g1, .int .i64 g2, .int .i64 g3, .int .i64 g4, .int .i64 g5] := hg; simp only [List.cons.injEq, and_true] at hg; obtain ⟨rfl, rfl, rfl, rfl, rfl, rfl⟩ := hg; exact ⟨⟨z0, z1, z2, z3, a, z5, z6, z7, z8, z9, z10, fa, g1, g2, g3, g4, g5⟩, rfl, rfl, rfl, rfl, ha, rfl, rfl, rfl, rfl, rfl, rfl, rfl, rfl, rfl, rfl, rfl, rfl, trivial⟩
theorem ress_in (h : DataW.trod enc Tryz.prog w base spare held fuel 29 cs = some x) : ∃ (v : Value) (l : List Rs), cs = [v] ∧ l.length ≤ 9223372036854775807 ∧ (rssC l).p (fun _ => True) w v := by
  obtain ⟨v, zs, h1, h2, _, h3, _⟩ := slice_inS Tryz.underlying29 (n := 17) (by kernel_rfl) (by decide) rsCs (fun _ => rfl) (fun _ => True) (fun m cs y hy _ => by
    obtain ⟨r, hr⟩ := res_cells hy
    exact ⟨r, hr, trivial⟩) h
  exact ⟨v, zs, h1, h2, h3⟩
theorem wf_i64 {a : Int} (h : (Lit.int .i64 a).wf = true) : -9223372036854775808 ≤ a ∧ a < 9223372036854775808 := by
  simp only [Lit.wf, Bool.and_eq_true, decide_eq_true_eq] at h; have h1 := h.1; have h2 := h.2; rw [show IntKind.i64.max = 9223372036854775807 from rfl] at h2; rw [show IntKind.i64.min = -9223372036854775808 from rfl] at h1; omega
theorem wire_cells (hy : DataW.trod enc Tryz.prog w base spare held fuel 37 cs = some x) : ∃ a : Wr, cs = [.int .u32 (a.1.val : Int), .int .u32 (a.2.val : Int)] := by
  obtain ⟨xs, k, rfl, rfl, hl, h2, h3⟩ := DataW.trod_struct Tryz.underlying37 hy; have hl : cs.length = 2 := hl.trans (by kernel_rfl); have f0 := h3 0 _ J; rw [List.getElem?_eq_getElem (show 0 < xs.length by rw [h2]; decide)] at f0; have f1 := h3 1 _ J; rw [List.getElem?_eq_getElem (show 1 < xs.length by rw [h2]; decide)] at f1; obtain ⟨c0, r0, rfl, hl0⟩ := Xl (n := 1) cs hl; obtain ⟨c1, r1, rfl, hl1⟩ := Xl (n := 0) r0 hl0; obtain rfl := List.eq_nil_of_length_eq_zero hl1; rw [show Tryz.prog.cellsOf _ = 1 from by kernel_rfl] at f0 f1; obtain ⟨z0, e0, _, w0⟩ := DataW.trod_int Tryz.underlying27 f0
  injection e0 with e0 _
  have e0 : c0 = .int _ z0 := e0; subst e0; obtain ⟨z1, e1, _, w1⟩ := DataW.trod_int Tryz.underlying27 f1
  injection e1 with e1 _
  have e1 : c1 = .int _ z1 := e1; subst e1; obtain ⟨a, ha⟩ := adr_in w0; obtain ⟨b, hb⟩ := adr_in w1; exact ⟨(a, b), by rw [ha, hb]⟩
theorem wire_in (hy : DataW.trod enc Tryz.prog w base spare held fuel 37 cs = some x) : ∃ a : Wr, Go.Own.cells (fun _ => True) w (wrCs a) cs := by
  obtain ⟨a, rfl⟩ := wire_cells hy; exact ⟨a, rfl, rfl, trivial⟩
def I6 (a : Int) : Prop := -9223372036854775808 ≤ a ∧ a < 9223372036854775808
theorem cn_in (hy : DataW.trod enc Tryz.prog w base spare held fuel 39 cs = some x) : ∃ c : Cn, Go.Own.cells (fun _ => True) w (cnCs c) cs ∧ I6 c.se ∧ I6 c.lo ∧ I6 c.hi := by
  obtain ⟨xs, k, rfl, rfl, hl, h2, h3⟩ := DataW.trod_struct Tryz.underlying39 hy; have hl : cs.length = 5 := hl.trans (by kernel_rfl); have f0 := h3 0 _ J; rw [List.getElem?_eq_getElem (show 0 < xs.length by rw [h2]; decide)] at f0; have f1 := h3 1 _ J; rw [List.getElem?_eq_getElem (show 1 < xs.length by rw [h2]; decide)] at f1; have f2 := h3 2 _ J; rw [List.getElem?_eq_getElem (show 2 < xs.length by rw [h2]; decide)] at f2; have f3 := h3 3 _ J; rw [List.getElem?_eq_getElem (show 3 < xs.length by rw [h2]; decide)] at f3; obtain ⟨c0, r0, rfl, hl0⟩ := Xl (n := 4) cs hl; obtain ⟨c1, r1, rfl, hl1⟩ := Xl (n := 3) r0 hl0; obtain ⟨c2, r2, rfl, hl2⟩ := Xl (n := 2) r1 hl1; obtain ⟨c3, r3, rfl, hl3⟩ := Xl (n := 1) r2 hl2; obtain ⟨c4, r4, rfl, hl4⟩ := Xl (n := 0) r3 hl3; obtain rfl := List.eq_nil_of_length_eq_zero hl4; rw [show Tryz.prog.cellsOf _ = 1 from by kernel_rfl] at f1 f2 f3; rw [show Tryz.prog.cellsOf _ = 2 from by kernel_rfl] at f0; obtain ⟨z1, e1, _, w1⟩ := DataW.trod_int Tryz.underlying3 f1
  injection e1 with e1 _
  have e1 : c2 = .int _ z1 := e1; subst e1; obtain ⟨z2, e2, _, w2⟩ := DataW.trod_int Tryz.underlying3 f2
  injection e2 with e2 _
  have e2 : c3 = .int _ z2 := e2; subst e2; obtain ⟨z3, e3, _, w3⟩ := DataW.trod_int Tryz.underlying3 f3
  injection e3 with e3 _
  have e3 : c4 = .int _ z3 := e3; subst e3; obtain ⟨a, ha⟩ := wire_cells f0; have ha : [c0, c1] = [.int .u32 (a.1.val : Int), .int .u32 (a.2.val : Int)] := ha; simp only [List.cons.injEq, and_true] at ha; obtain ⟨rfl, rfl⟩ := ha; exact ⟨⟨a, z1, z2, z3⟩, ⟨rfl, rfl, rfl, rfl, rfl, trivial⟩, wf_i64 w1, wf_i64 w2, wf_i64 w3⟩
end
end Go.Proofs.YtlkdkbdgnjcopaaGreat
namespace Go.Proofs.YtlkdkbdgnjcopaaGreat.lossSteps
open Go.ChangeShapes Go.WideShapes Go.ChangeAt Go.RowKit
open Go.ChangeMaps (open_string shut_string)
set_option linter.unusedVariables false
theorem own : ownKnob Tryz.prog.godebug = none := by kernel_rfl
theorem laidOut : laidOutB Tryz.prog = true := by kernel_rfl
set_option maxRecDepth 100000 in
theorem lifted (os : Os) (started : os.Started) (H : Type) (enc : TypeId × Value → H) :
    ReturnsInHanded {} Tryz.checked os 6 .any (Rows.lossStepsSpec.pre6 enc Tryz.prog Tryz.f6 Rows.lossStepsRow.domain false) (Rows.lossStepsSpec.post enc Tryz.prog Tryz.f6 false true false false) := by
  refine returnsInHanded_of_change_sized (C := Tryz.checked) own started (by kernel_rfl) Tryz.func6
    (ChangeSpec.witness6 (enc := enc) (C := Tryz.checked) false ⟨#[], #[.slice none 0 0, .slice none 0 0, .agg #[.int .u32 0, .int .u32 0], .int .i64 0, .agg #[.int .u32 0, .int .u32 0, .int .i64 0, .int .i64 0, .int .i64 0]], []⟩ 8 (by kernel_rfl) (by kernel_rfl) (by kernel_rfl) (by kernel_rfl)) ?_
  intro W base args ds gs before hval0 hW hcnd hsz0 _; have hval : ∀ (j : Nat) t v, Tryz.f6.params[j]? = some t → args[j]? = some v → Value.okWide Tryz.prog W .any base t v := hval0; have hW' := hW; obtain ⟨p, q, hA0, hV, rfl, hfz, hnd⟩ := hW; have hA : DataW.TrodAll enc Tryz.prog W 0 (fun _ => true) true Tryz.f6.params.toList args.toList ds p := hA0; rw [Tryz.params6] at hA hval; obtain ⟨v0, vs0, d0, ds0, p0, q0, hargs0, rfl, rfl, h0, r0⟩ := trodAll_cons hA; obtain ⟨v1, vs1, d1, ds1, p1, q1, hargs1, rfl, rfl, h1, r1⟩ := trodAll_cons r0; obtain ⟨v2, vs2, d2, ds2, p2, q2, hargs2, rfl, rfl, h2, r2⟩ := trodAll_cons r1; obtain ⟨v3, vs3, d3, ds3, p3, q3, hargs3, rfl, rfl, h3, r3⟩ := trodAll_cons r2; obtain ⟨v4, vs4, d4, ds4, p4, q4, hargs4, rfl, rfl, h4, r4⟩ := trodAll_cons r3; obtain ⟨rfl, rfl, rfl⟩ := trodAll_nil r4
  obtain rfl : args = #[v0, v1, v2, v3, v4] := by cases args; simp_all
  obtain ⟨rfl, rfl⟩ := trodVars_none hV
  have hsz : ∀ (j : Nat) (t : TypeId) (d : DataW H), (Tryz.f6.params.toList ++ Rows.lossStepsSpec.plain.varTypes Tryz.prog)[j]? = some t → [d0, d1, d2, d3, d4][j]? = some d → ∀ q ∈ d.weights Tryz.prog t, q ≤ reachBytes := fun j t d h1 h2 q hq => by
    have := List.all_eq_true.1 hsz0 q (DataW.weights_mem_each h1 (by simpa using h2) q hq)
    simpa using this
  obtain ⟨a0, len0, cap0, rfl⟩ := okWide_slice Tryz.underlying22 (hval 0 22 v0 rfl rfl); have k0 := h0
  have lt0 : ∀ x ∈ p0, x.block < W.heap.size := by obtain ⟨m, hm⟩ := k0; exact DataW.trod_lt m _ _ _ hm
  obtain ⟨f0, t0⟩ := h0; obtain ⟨u0, z0, e0, c0, w0⟩ := bytes_inS Tryz.underlying22 Tryz.underlying5 (by kernel_rfl) t0
  have e0 : Value.slice a0 len0 cap0 = u0 := by simpa [Value.cells] using e0
  subst e0; obtain ⟨a1, len1, cap1, rfl⟩ := okWide_slice Tryz.underlying29 (hval 1 29 v1 rfl rfl); have k1 := h1
  have lt1 : ∀ x ∈ p1, x.block < W.heap.size := by obtain ⟨m, hm⟩ := k1; exact DataW.trod_lt m _ _ _ hm
  obtain ⟨f1, t1⟩ := h1; obtain ⟨u1, z1, e1, b1, w1⟩ := ress_in t1
  have e1 : Value.slice a1 len1 cap1 = u1 := by simpa [Value.cells] using e1
  subst e1; obtain ⟨cs2, rfl⟩ := agg_inS Tryz.underlying37 (hval 2 37 v2 rfl rfl); have k2 := h2
  have lt2 : ∀ x ∈ p2, x.block < W.heap.size := by obtain ⟨m, hm⟩ := k2; exact DataW.trod_lt m _ _ _ hm
  obtain ⟨f2, t2⟩ := h2; obtain ⟨z2, w2⟩ := wire_in (cs := cs2) t2; obtain ⟨a3, rfl, rfl, rfl, w3⟩ := open_int Tryz.underlying3 (hval 3 3 v3 rfl rfl) h3; obtain ⟨cs4, rfl⟩ := agg_inS Tryz.underlying39 (hval 4 39 v4 rfl rfl); have k4 := h4
  have lt4 : ∀ x ∈ p4, x.block < W.heap.size := by obtain ⟨m, hm⟩ := k4; exact DataW.trod_lt m _ _ _ hm
  obtain ⟨f4, t4⟩ := h4; obtain ⟨z4, w4, b4⟩ := cn_in (cs := cs4) t4; clear hA0 hval0
  refine (((LossSteps_ok z0 c0 z1 b1 z2 a3 z4 b4) (fun _ => True) W [.slice a0 len0 cap0, .slice a1 len1 cap1, .agg cs2.toArray, .int .i64 a3, .agg cs4.toArray] (fun _ _ => trivial) ⟨w0, w1, ⟨cs2, rfl, w2⟩, rfl, ⟨cs4, rfl, w4⟩, trivial⟩)).mono fun e W' ⟨v, he, hv, bel⟩ => ?_
  have hv : v = .bool true := hv; subst hv he; exact ⟨_, rfl, _, _, _, [], _, [], hW', trodAll_mk1 (shut_bool Tryz.underlying4 _), (trodAll_cons_mk (Below.trod laidOut (by kernel_rfl) (of_decide_eq_true (by kernel_rfl)) k0 bel.kit lt0) (trodAll_cons_mk (Below.trod laidOut (by kernel_rfl) (of_decide_eq_true (by kernel_rfl)) k1 bel.kit lt1) (trodAll_cons_mk (Below.trod laidOut (by kernel_rfl) (of_decide_eq_true (by kernel_rfl)) k2 bel.kit lt2) (trodAll_cons_mk (shut_int Tryz.underlying3 w3) (trodAll_cons_mk (Below.trod laidOut (by kernel_rfl) (of_decide_eq_true (by kernel_rfl)) k4 bel.kit lt4) trodAll_mk0))))), rfl, bel.kit.frame _, fun h => by cases h⟩
theorem over : Rows.lossStepsRow.holds Tryz.pinned (OpenSpec.ofChange Rows.lossStepsSpec) :=
  OpenClaim.holds_of_wide 6 Tryz.f6 rfl rfl rfl rfl rfl rfl rfl ⟨rfl, rfl, rfl, rfl, rfl⟩ rfl rfl rfl rfl rfl (by kernel_rfl) Tryz.func6 (by kernel_rfl)
    (of_decide_eq_true (by kernel_rfl)) (by unfold Func.isWrapper; first | (rw [if_pos (by decide +kernel)]; kernel_rfl) | (rw [if_neg (by decide +kernel)]; exact ⟨rfl, rfl⟩))
    (fun os started H enc _ => lifted os started H enc)
theorem proved : Rows.LossStepsSaid := over
#print axioms proved
end Go.Proofs.YtlkdkbdgnjcopaaGreat.lossSteps
