/- The proof that LinearSolves holds for every input, without conditions: part 6 of 6. -/
import Derived.Test.YtdhmbgogmoaofaaGreatZ5
import Derived.ProofKit
import Derived.OpenShut
import Derived.ShutString
import Derived.ChangeOld
import Derived.Below
import Derived.DataElems
import Derived.Test.YtdhmbgogmoaofaaGreatRows
namespace Go.Own
def seqL : Code → Code
  | .seq a _ => a
  | c => c
def condT : Code → Code
  | .cond _ a _ => a
  | c => c
end Go.Own
namespace Go.Proofs.YtdhmbgogmoaofaaGreat
open Go.Own Go.Limbs Go.Det
attribute [local irreducible] St Ops Go.Own.Fin Ok OkM OkF
set_option maxHeartbeats 32000000 in
theorem sol34_drive (n : Nat) (rs : List Rw) (c : List Int) (bs : List Nat) (hL : LpOk n rs c) (hm6 : rs.length ≤ 6) {T : Tv} (hD : Dr n rs c 0 T bs) (ar ab : Option Addr) (lr cr lb cb : Nat) (S : BSet) (w : World) (Q : Exit → Act → World → Prop)
    (hQ : ∀ g : List Rat, Go.Own.Fin { P := Tryz.prog, n := 261, S0 := S, w0 := w, bor := noBor } [(0, .ct (intC n)), (2, .ct (intsC c)), (6, .own 0), (8, .own 1), (9, .ct (intC ((n : Int) + rs.length + 1)))]
      ((1, .box 102 (taCs n rs.length (.slice ar lr cr) g (.slice ab lb cb))) :: (0, .box 46 outZ) :: tEnt (.slice ar lr cr) (tst n rs c rs.length (dv n rs c bs rs.length)).rows (.slice ab lb cb) (tst n rs c rs.length (dv n rs c bs rs.length)).bas) (fun a w => Q .normal a w)) :
    St { P := Tryz.prog, n := 261, S0 := S, w0 := w, bor := noBor } [(0, .ct (intC n)), (2, .ct (intsC c)), (6, .own 0), (8, .own 1), (9, .ct (intC ((n : Int) + rs.length + 1)))]
      ((1, .box 102 (taCs n rs.length (.slice ar lr cr) (tst n rs c (rs.length + 1) bs).goal (.slice ab lb cb))) :: (0, .box 46 outZ) :: tEnt (.slice ar lr cr) (tst n rs c (rs.length + 1) bs).rows (.slice ab lb cb) (tst n rs c (rs.length + 1) bs).bas)
      (seqR (seqR (seqR (seqR (seqR (condT (seqR (seqL (seqR (seqR (seqR (seqR (seqR (seqR (bodyOf Tryz.f28)))))))))))))))
      Q := by
  have hn := hL.nn
  have e1 : ((n : Int) + rs.length + 1 - 1) = ((n + rs.length : Nat) : Int) := by omega
  have hT0 : ∀ b, (tst n rs c rs.length b).rows = (tst n rs c (rs.length + 1) b).rows ∧ (tst n rs c rs.length b).bas = (tst n rs c (rs.length + 1) b).bas := fun b => ⟨rfl, rfl⟩
  rw [(hT0 _).1, (hT0 _).2] at hQ; clear hT0; refine Qy (Qx fun K hK => ?_); refine Qv Y Y Y (Qj (hK _ _ (Qz (Q0 ?_)))); clear hK K
  refine Xq (α := Nat) (fun i => i ≤ rs.length)
    (fun i => [(0, .ct (intC n)), (2, .ct (intsC c)), (6, .own 0), (8, .own 1), (9, .ct (intC ((n : Int) + rs.length + 1))), (12, .ct (intC i))])
    (fun i => (1, .box 102 (taCs n rs.length (.slice ar lr cr) (tst n rs c (rs.length + 1) (dv n rs c bs i)).goal (.slice ab lb cb))) :: (0, .box 46 outZ) :: tEnt (.slice ar lr cr) (tst n rs c (rs.length + 1) (dv n rs c bs i)).rows (.slice ab lb cb) (tst n rs c (rs.length + 1) (dv n rs c bs i)).bas) (fun i => rs.length - i) 0 (Nat.zero_le _) (by exact Qu Y ⟨rfl, rfl, rfl, rfl, rfl, rfl, trivial⟩) ?_
  intro i hi
  (try dsimp only at hi ⊢)
  refine Qy (Qy (Qx fun K hK => ?_)); refine Qq Y Y Y (QV Y Y Y fG1 Y (QJ Y Y Y Y Y lInt Y (Qw ilss Y Y Y Y (Qj (hK _ _ (Qz ?_)))))); clear hK K; refine QK Y (fun hlt => ?_) (fun hlt => ?_)
  · have k2 : (i : Int).toNat * 1 = i := by omega
    have hlt : i < rs.length := by omega
    obtain ⟨T', hDi⟩ := hD.all hL i (by omega)
    have hdv : dv n rs c bs (i + 1) = if (dv n rs c bs i).getD i 0 = n + rs.length then (dv n rs c bs i).set i (dvJ n rs c (dv n rs c bs i) i) else dv n rs c bs i := rfl
    generalize dv n rs c bs i = b at *; obtain ⟨b', hb'⟩ : ∃ b', dv n rs c bs (i + 1) = b' := ⟨_, rfl⟩; rw [hb'] at hdv; have hbl := hDi.ph.bas.len; have hbi := tst_bas (n := n) (rs := rs) (c := c) (bs := b) (g := rs.length + 1) hlt
    have hTl : (tst n rs c (rs.length + 1) b).bas.length = rs.length := by simp [tst]
    have hRl : (tst n rs c (rs.length + 1) b).rows.length = rs.length := Zt _; refine QU (Qz (Qy (Q0 (Qy (Qy (Qx fun K hK => ?_)))))); refine QV Y Y Y fG4 Y (QJ Y Y Y Y Y lInts Y (Qq Y Y Y (Qo 9 rs.length Y Y Y (by simp [ints, hTl]) Y sInts (by omega) (by omega) Y ?_))); rw [k2]
    refine QJ Y Y Y Y (Xi (by omega)) lInt Y ?_
    rw [hbi]; refine Qq Y Y Y (Qw (isub (by omega) (by omega)) Y Y Y Y ?_); refine Qw ineq Y Y Y Y (Qj (hK _ _ (Qz ?_))); clear hK K; rw [e1]; skip; refine QK Y (fun hz => ?_) (fun hz => ?_)
    · rw [if_neg (by omega)] at hdv; subst hdv; refine Qr (Qz (Qx fun K hK => ?_)); refine Qq Y Y Y (Qw (iadd (by omega) (by omega)) Y Y Y Y ?_); refine Qv Y Y Y (Qj (hK _ _ (Q4 ?_))); clear hK K; refine Qb (i + 1) (by omega) (by omega) (by refine Qu ?_ ⟨rfl, rfl, rfl, rfl, rfl, by simp only [Int.natCast_add]; rfl, trivial⟩; rw [hb'])
    · have hz : b.getD i 0 = n + rs.length := by omega
      rw [if_pos hz] at hdv; obtain ⟨hJ, hJn, _⟩ := hDi.next hL hlt hz
      have hJl : ∀ j, j < dvJ n rs c b i → rq (colA n rs c) b i (colA n rs c j) = 0 := fun j hj => dvJ_least hj
      have hPv := tst_piv hL hm6 hDi.ph.bas (g := rs.length + 1) (by omega) (by omega) hlt (by omega) hJn; have hbs := tst_bas_set (n := n) (rs := rs) (c := c) (bs := b) (g := rs.length + 1) (r := i) (s := dvJ n rs c b i) hbl hlt; rw [← hdv] at hPv hbs; generalize dvJ n rs c b i = J at *; have hP := pivot34_ok n rs.length (n + rs.length + 2) _ _ _ _ (tst n rs c (rs.length + 1) b).bas i J hPv (by rw [hTl, hRl]) ar ab lr cr lb cb; rw [← hbs] at hP; have hrow := Yz (n := n) (rs := rs) (c := c) (bs := b) (g := rs.length + 1) hlt; refine QU (Qz (Qy (Qx fun K hK => ?_))); refine Qv Y Y Y (Qj (hK _ _ (Qz (Q0 ?_)))); clear hK K
      refine Xq (α := Nat) (fun j => j ≤ J)
        (fun j => [(0, .ct (intC n)), (2, .ct (intsC c)), (6, .own 0), (8, .own 1), (9, .ct (intC ((n : Int) + rs.length + 1))), (12, .ct (intC i)), (13, .ct (intC j))])
        (fun _ => (1, .box 102 (taCs n rs.length (.slice ar lr cr) (tst n rs c (rs.length + 1) b).goal (.slice ab lb cb))) :: (0, .box 46 outZ) :: tEnt (.slice ar lr cr) (tst n rs c (rs.length + 1) b).rows (.slice ab lb cb) (tst n rs c (rs.length + 1) b).bas) (fun j => J - j) 0 (Nat.zero_le _) (by exact Qu Y ⟨rfl, rfl, rfl, rfl, rfl, rfl, rfl, trivial⟩) ?_
      intro j hj
      (try dsimp only at hj ⊢)
      refine Qy (Qy (Qx fun K hK => ?_)); refine Qq Y Y Y (Qq Y Y Y (Qw (isub (by omega) (by omega)) Y Y Y Y ?_)); refine Qw ilss Y Y Y Y (Qj (hK _ _ (Qz ?_))); clear hK K; rw [e1]; skip; refine QK Y (fun hlt2 => ?_) (fun hlt2 => ?_)
      · have hrl := YX (n := n) (rs := rs) (c := c) (bs := b) i; have e5 : (j : Int).toNat = j := Int.toNat_natCast j
        have hat : (rowQ n rs c b i).getD j 0 = rq (colA n rs c) b i (colA n rs c j) := by
          rw [Z8 (by omega), vcA_lo (by omega)]
        have hS := Jk (ofQ (rq (colA n rs c) b i (colA n rs c j))); rw [sgnF_q] at hS; refine QU (Qz (Qy (Q0 (Qy (Qx fun K hK => ?_))))); refine QV Y Y Y fG2 Y (QJ Y Y Y Y Y lRat2 Y (Qq Y Y Y (Qo 8 rs.length Y Y Y (by rw [rowsR_len, hRl]) Y sRat2 (by omega) (by omega) Y ?_))); rw [k2]
        refine QJ Y Y Y Y (rowsR_at (by omega)) lRat1 Y ?_
        rw [hrow]; refine Qq Y Y Y (Qh Y Y Y sFracs (by omega) (Z1 (by omega) (by omega)) Y ?_)
        refine Xd (n := 3) Y Y Y Xy Y Y ?_
        rw [e5, hat]; skip; refine QQ goSign hS Y Y Y Y (Qw ineq Y Y Y Y (Qj (hK _ _ (Qz ?_)))); clear hK K; refine QK Y (fun hz2 => ?_) (fun hz2 => ?_)
        · have hjJ : j = J := by
            rcases Nat.lt_or_ge j J with h | h
            · rw [hJl j h] at hz2; exact absurd Y hz2
            · omega
          subst hjJ; refine Qy (Qx fun K hK => ?_); refine Qt (n := 5) Y Y Y Y Y lTab Y (Qq Y Y Y (Qq Y Y Y (YZ [(1, _), (0, _)] gopivot34 hP Y Y Y (fun _ h => h.elim) Y Y Y (fun _ _ => ?_)))); refine Qa 5 Y Y Y Y Y szTab5 Y Y (Qj (hK _ _ (Qz (Qr (Qz ?_))))); clear hK K; refine Qx (fun K hK => ?_); refine Qq Y Y Y (Qw (iadd (by omega) (by omega)) Y Y Y Y ?_); refine Qv Y Y Y (Qj (hK _ _ (Q4 ?_))); clear hK K; refine Qb (i + 1) (by omega) (by omega) (by refine Qu ?_ ⟨rfl, rfl, rfl, rfl, rfl, by simp only [Int.natCast_add]; rfl, trivial⟩; rw [hb']; rfl)
        · have hjJ : j ≠ J := fun e => by
            subst e
            have h2 : (rq (colA n rs c) b i (colA n rs c j)).num ≠ 0 := fun e => hJn (Rat.num_eq_zero.1 e)
            exact h2 (Int.sign_eq_zero_iff_zero.1 (by omega))
          refine QU (Qz (Qx fun K hK => ?_)); refine Qq Y Y Y (Qw (iadd (by omega) (by omega)) Y Y Y Y ?_); refine Qv Y Y Y (Qj (hK _ _ (Q4 ?_))); clear hK K; refine Qb (j + 1) (by omega) (by omega) (by exact Qu Y ⟨rfl, rfl, rfl, rfl, rfl, rfl, by simp only [Int.natCast_add]; rfl, trivial⟩)
      · exact absurd hlt2 (by omega)
  · have hi' : i = rs.length := by omega
    subst hi'; refine Qr (Zy (Zy (Yl ?_))); exact Fin.keep [(0, .ct (intC n)), (2, .ct (intsC c)), (6, .own 0), (8, .own 1), (9, .ct (intC ((n : Int) + rs.length + 1)))] ⟨rfl, rfl, rfl, rfl, rfl, trivial⟩ (hQ _)
end Go.Proofs.YtdhmbgogmoaofaaGreat
namespace Go.Proofs.YtdhmbgogmoaofaaGreat
open Go.Own Go.Limbs Go.Det
attribute [local irreducible] St Ops Go.Own.Fin Ok OkM OkF
set_option maxHeartbeats 32000000 in
theorem sol34_mid (n : Nat) (rs : List Rw) (c : List Int) (O : Oc) (hL : LpOk n rs c) (hm6 : rs.length ≤ 6) (H : RefRun n rs c O) (ar ab : Option Addr) (lr cr lb cb : Nat) (S : BSet) (w : World) :
    St { P := Tryz.prog, n := 261, S0 := S, w0 := w, bor := noBor } [(0, .ct (intC n)), (2, .ct (intsC c)), (6, .own 0), (8, .own 1), (9, .ct (intC ((n : Int) + rs.length + 1))), (10, .ct (intC (wrR rs rs.length)))]
      ((1, .box 102 [intC n, intC rs.length, .ex (.slice ar lr cr), .ex (.slice none 0 0), .ex (.slice ab lb cb)]) :: (0, .box 46 outZ) :: tEnt (.slice ar lr cr) (stRows n rs) (.slice ab lb cb) (rng n rs.length))
      (seqR (seqR (seqR (seqR (seqR (seqR (bodyOf Tryz.f28)))))))
      (bodyPost Tryz.prog Tryz.f28 (okPost { P := Tryz.prog, n := 261, S0 := S, w0 := w, bor := noBor } (.fr (tupT [ocC O, intC 0])))) := by
  have hn := hL.nn
  have e0 : ∀ g, stRows n rs = (tst n rs c g (bs0 n rs.length)).rows ∧ rng n rs.length = (tst n rs c g (bs0 n rs.length)).bas := fun g => ⟨(tst_bs0_rows hL g).symm, (tst_bs0_bas g).symm⟩
  have bd := wrR_bd rs rs.length; refine Qy (Qy (Qx fun K hK => ?_)); refine Qq J J J (Qw igeq J J J J (Qj (hK _ _ (Qz ?_)))); clear hK K; refine QK J (fun hw => ?_) (fun hw => ?_)
  · have e1 : ((n : Int) + rs.length + 1 + 1) = ((n + rs.length + 2 : Nat) : Int) := by omega
    have e2 : ((n : Int) + rs.length + 1 - 1) = ((n + rs.length : Nat) : Int) := by omega
    have e3 : ((n : Int) + rs.length + 1) = ((n + rs.length + 1 : Nat) : Int) := by omega
    obtain ⟨W, hW⟩ : ∃ W : Nat, wrR rs rs.length = W := ⟨(wrR rs rs.length).toNat, by omega⟩
    have hH : ∃ bs, Half1 n rs c bs ∧ (((rq (colA n rs c) bs (rs.length + 1) (rhsQ rs)).num < 0 ∧ O = oc3 n rs c bs) ∨ (¬ (rq (colA n rs c) bs (rs.length + 1) (rhsQ rs)).num < 0 ∧ ∃ bf s T, O = oc2 n rs c bf s ∧ Dr n rs c 0 T bs ∧ Half2 n rs c (dv n rs c bs rs.length) bf s)) := by
      cases H with
      | keep bf s h0 h => omega
      | none bs h0 h hv => exact ⟨bs, h, .inl ⟨hv, rfl⟩⟩
      | some bs bf s h0 h hv T hd h2 => exact ⟨bs, h, .inr ⟨hv, bf, s, T, rfl, hd, h2⟩⟩
    obtain ⟨bs, H1, hO⟩ := hH; clear H; rw [(e0 (rs.length + 1)).1, (e0 (rs.length + 1)).2, hW]
    have hWl : W < rs.length := by omega
    have hpv := H1.piv; obtain ⟨k, s0, hrun⟩ := H1.run; obtain ⟨TE, hPE⟩ := H1.ph; rw [hW, Int.toNat_natCast] at hpv hrun; have hg0 : (tst n rs c (rs.length + 1) (bs0 n rs.length)).goal = (List.replicate (n + rs.length + 2) (0 : Rat)).set (n + rs.length) 1 := rowQ_bs0_w
    have hbl : (tst n rs c (rs.length + 1) (bs0 n rs.length)).bas.length = (tst n rs c (rs.length + 1) (bs0 n rs.length)).rows.length := by simp [tst]
    have hP := pivot34_ok n rs.length (n + rs.length + 2) _ _ _ _ (tst n rs c (rs.length + 1) (bs0 n rs.length)).bas W (n + rs.length) hpv hbl ar ab lr cr lb cb; have hbs0l := (bs0_bas (n := n) (rs := rs) (c := c)).1.len; rw [← tst_bas_set hbs0l hWl] at hP; have hI := improve34_ok n rs.length (n + rs.length + 2) (n + rs.length + 1) _ _ s0 k hrun J (by omega) ar ab lr cr lb cb; have hTE : Tok (n + rs.length + 2) (tst n rs c (rs.length + 1) bs) := tst_tok hL hm6 hPE.bas.len hPE.bas.ne (by omega); have hgl := hTE.g; have hDu := duals34_ok n rs.length (n + rs.length + 2) _ hTE (by omega) ar ab lr cr lb cb
    have hgv : (tst n rs c (rs.length + 1) bs).goal.getD (n + rs.length + 1) 0 = rq (colA n rs c) bs (rs.length + 1) (rhsQ rs) := by
      show (rowQ n rs c bs (rs.length + 1)).getD _ 0 = _; rw [Z8 (by omega), vcA_hi]
    have hS := Jk (ofQ (rq (colA n rs c) bs (rs.length + 1) (rhsQ rs))); rw [sgnF_q] at hS; have hW1 : Ok Tryz.prog 61 [intC 1] (ratC 1) := Zn 1 (by decide) (by decide); clear hpv hrun hTE
    refine Qy ?_
    refine Zw (α := Nat × Nat) (fun x => n + rs.length + 2 ≤ x.2 ∧ x.2 ≤ maxLen) (fun _ => [(0, .ct (intC n)), (2, .ct (intsC c)), (6, .own 0), (8, .own 1), (9, .ct (intC ((n : Int) + rs.length + 1))), (10, .ct (intC W))])
      (fun x => (2, .rowx (.slice (some ⟨x.1, 0, none⟩) (n + rs.length + 2) x.2) 38 3 (frR ((List.replicate (n + rs.length + 2) (0 : Rat)).map some))) :: (1, .box 102 [intC n, intC rs.length, .ex (.slice ar lr cr), .ex (.slice (some ⟨x.1, 0, none⟩) (n + rs.length + 2) x.2), .ex (.slice ab lb cb)]) :: (0, .box 46 outZ) :: tEnt (.slice ar lr cr) (tst n rs c (rs.length + 1) (bs0 n rs.length)).rows (.slice ab lb cb) (tst n rs c (rs.length + 1) (bs0 n rs.length)).bas) (fun x hx => ?_) (fun KK hN => ?_)
    rotate_left
    · refine Qx (fun K hK => ?_); refine Qq J J J (Qw (iadd (by omega) (by omega)) J J J J ?_); rw [e1]; skip
      refine Ops.callFr 2 gozeros34 (zeros34_F (n + rs.length + 2) (by omega)) J J J J J J ?_
      rw [show List.replicate (n + rs.length + 2) (some (0 : Rat)) = (List.replicate (n + rs.length + 2) (0 : Rat)).map some by rw [List.map_replicate]]; refine Xw 75 2 (n + rs.length + 2) J J (by rw [Zz, List.length_map, List.length_replicate]) (by omega) (by decide) (fun gb cp c1 c2 => ?_); refine QV J J J fG3 J (Qn J J J J J zFracs (Nat.le_of_ble_eq_true J) (Qj (hK _ _ ?_))); clear hK K; exact XV hN (gb, cp) ⟨c1, c2⟩ (by exact Qu J ⟨rfl, rfl, rfl, rfl, rfl, rfl, trivial⟩)
    obtain ⟨gb, cp⟩ := x; dsimp only at hx ⊢
    refine Qy ?_
    refine Zw (α := Unit) (fun _ => True) (fun _ => [(0, .ct (intC n)), (2, .ct (intsC c)), (6, .own 0), (8, .own 1), (9, .ct (intC ((n : Int) + rs.length + 1))), (10, .ct (intC W))])
      (fun x => (2, .rowx (.slice (some ⟨gb, 0, none⟩) (n + rs.length + 2) cp) 38 3 (frR ((tst n rs c (rs.length + 1) (bs0 n rs.length)).goal.map some))) :: (1, .box 102 [intC n, intC rs.length, .ex (.slice ar lr cr), .ex (.slice (some ⟨gb, 0, none⟩) (n + rs.length + 2) cp), .ex (.slice ab lb cb)]) :: (0, .box 46 outZ) :: tEnt (.slice ar lr cr) (tst n rs c (rs.length + 1) (bs0 n rs.length)).rows (.slice ab lb cb) (tst n rs c (rs.length + 1) (bs0 n rs.length)).bas) (fun _ _ => ?_) (fun KK hN => ?_)
    rotate_left
    · skip; refine Xv mixed 6 (.p 0 (.p 2 (.p 3 (.f 1 (.m 4 (.p 5 (.a 6 .done))))))) (by kernel_rfl) (fun K hK => ?_); refine QV J J J fG3 J (Qq J J J (Qw (isub (by omega) (by omega)) J J J J ?_))
      refine QJ J J J J J lRat1 J ?_
      rw [e2]; refine QQ Zs hW1 J J J J (Qo 2 (n + rs.length + 2) J J J (by rw [Zz, List.length_map, List.length_replicate]) J sFracs (by omega) (by omega) J ?_); rw [Int.toNat_natCast]
      refine stFrX J J J J (by rw [List.length_map, List.length_replicate]; omega) szFrac ?_
      rw [show ((List.replicate (n + rs.length + 2) (0 : Rat)).map some).set (n + rs.length) (some (1 : Rat)) = (tst n rs c (rs.length + 1) (bs0 n rs.length)).goal.map some by rw [hg0, List.map_set]]; refine Qj (hK _ _ ?_); clear hK K; exact XV hN () trivial (by exact Qu J ⟨rfl, rfl, rfl, rfl, rfl, rfl, trivial⟩)
    refine St.frzX 2 1 3 _ J J J (frR_rats _ _) (fun _ h => h.elim) ?_
    refine Qy ?_
    refine Zw (α := Unit) (fun _ => True) (fun _ => [(0, .ct (intC n)), (2, .ct (intsC c)), (6, .own 0), (8, .own 1), (9, .ct (intC ((n : Int) + rs.length + 1)))])
      (fun x => (1, .box 102 (taCs n rs.length (.slice ar lr cr) (tst n rs c (rs.length + 1) ((bs0 n rs.length).set W (n + rs.length))).goal (.slice ab lb cb))) :: (0, .box 46 outZ) :: tEnt (.slice ar lr cr) (tst n rs c (rs.length + 1) ((bs0 n rs.length).set W (n + rs.length))).rows (.slice ab lb cb) (tst n rs c (rs.length + 1) ((bs0 n rs.length).set W (n + rs.length))).bas) (fun _ _ => ?_) (fun KK hN => ?_)
    rotate_left
    · refine Qx (fun K hK => ?_); refine Qt (n := 5) J J J J J lTab J (Qq J J J (Qq J J J (Qw (isub (by omega) (by omega)) J J J J ?_))); rw [e2]; skip; refine YZ [(1, _), (0, _)] gopivot34 hP J J J (fun _ h => h.elim) J J J (fun _ _ => ?_); refine Qa 5 J J J J J szTab5 J J (Qj (hK _ _ ?_)); clear hK K; exact XV hN () trivial (by exact Qu J ⟨rfl, rfl, rfl, rfl, rfl, trivial⟩)
    refine Qy ?_
    refine Zw (α := Unit) (fun _ => True) (fun _ => [(0, .ct (intC n)), (2, .ct (intsC c)), (6, .own 0), (8, .own 1), (9, .ct (intC ((n : Int) + rs.length + 1)))])
      (fun x => (1, .box 102 (taCs n rs.length (.slice ar lr cr) (tst n rs c (rs.length + 1) bs).goal (.slice ab lb cb))) :: (0, .box 46 outZ) :: tEnt (.slice ar lr cr) (tst n rs c (rs.length + 1) bs).rows (.slice ab lb cb) (tst n rs c (rs.length + 1) bs).bas) (fun _ _ => ?_) (fun KK hN => ?_)
    rotate_left
    · refine Qx (fun K hK => ?_); refine Qt (n := 5) J J J J J lTab J (Qq J J J ?_); rw [e3]; skip; refine YZ [(1, _), (0, _)] goimprove34 hI J J J (fun _ h => h.elim) J J J (fun _ _ => ?_); refine Qq J J J (QY J J J J (QY J J J J (Qa 5 J J J J J szTab5 J J (Qj (hK _ _ ?_))))); clear hK K; exact XV hN () trivial (by exact Qu J ⟨rfl, rfl, rfl, rfl, rfl, trivial⟩)
    clear hP hI hg0 hbl; refine Qy (Qy (Qx fun K hK => ?_)); refine QV J J J fG3 J (QJ J J J J J lRat1 J (Qq J J J (Qh J J J sFracs (by omega) (Z1 (by omega) (by omega)) J ?_)))
    refine Xd (n := 3) J J J Xy J J ?_
    rw [e3, Int.toNat_natCast, hgv]; skip; refine QQ goSign hS J J J J (Qw ilss J J J J (Qj (hK _ _ (Qz ?_)))); clear hK K; refine QK J (fun hz => ?_) (fun hz => ?_)
    · have hz2 : (rq (colA n rs c) bs (rs.length + 1) (rhsQ rs)).num < 0 := Classical.byContradiction fun h => by
        rcases Int.lt_or_eq_of_le (Int.not_lt.1 h) with h1 | h1
        · rw [Int.sign_eq_one_of_pos h1] at hz; omega
        · rw [← h1] at hz; exact absurd hz (by decide)
      rcases hO with ⟨_, hO⟩ | ⟨h, _⟩
      · refine Qy (Qx fun K hK => ?_); refine Qt (n := 5) J J J J J lTab J (QQ goduals34 hDu J J J J ?_); skip; rw [Jy]; refine Xk J bOut J (.one J J J J (.one J J J J .nil)) J (Qa 7 J J J J J szOut J J (Qv J J J (Qj (hK _ _ (Qz (Q2 (QW (QW ?_)))))))); clear hK K
        have hw : argW [.ex (.int .i64 3), .ex (.bool false), .ex (.slice none 0 0), .ex (.slice none 0 0), .ex (.slice none 0 0), .ex (.slice none 0 0), fracsC (((List.range rs.length).map fun i => (tst n rs c (rs.length + 1) bs).goal.getD (n + i) 0).map ofQ)] (ocCs O) := by
          rw [hO]; exact ⟨Xp, Xp, Jv, Jv, Yd, Yd, Xp, trivial⟩
        refine Q1 [_, _] rfl (Xr (w_agg hw) (Qd J J lOut J (QZ J QX))) J J
      · exact absurd hz2 h
    · rcases hO with ⟨h, _⟩ | ⟨_, bf, s, T, hO, hd, h2⟩
      · exfalso; have := Int.sign_eq_neg_one_iff_neg.2 h; omega
      · subst hO; refine QU (Qz (St.keep [(0, .ct (intC n)), (2, .ct (intsC c)), (6, .own 0), (8, .own 1), (9, .ct (intC ((n : Int) + rs.length + 1)))] ⟨rfl, rfl, rfl, rfl, rfl, trivial⟩ ?_)); exact sol34_drive n rs c bs hL hm6 hd ar ab lr cr lb cb S w _ (fun g => Qz (sol34_goal n rs c _ bf s _ J hL hm6 h2 ar ab lr cr lb cb S w))
  · cases H with
    | keep bf s h0 h =>
      rw [(e0 rs.length).1, (e0 rs.length).2]; refine QU (Qz (St.keep [(0, .ct (intC n)), (2, .ct (intsC c)), (6, .own 0), (8, .own 1), (9, .ct (intC ((n : Int) + rs.length + 1)))] ⟨rfl, rfl, rfl, rfl, rfl, trivial⟩ ?_)); exact sol34_goal n rs c _ bf s (.ex (.slice none 0 0)) J hL hm6 h ar ab lr cr lb cb S w
    | none bs h0 h hv => omega
    | some bs bf s h0 h hv T hd h2 => omega
theorem gorSolve : InGo Tryz.prog 28 := InGo.of Tryz.func28 (by kernel_rfl) (by kernel_rfl)
set_option maxHeartbeats 8000000 in
theorem rSolve_bad (n : Int) (rs : List Rw) (c : List Int) (hl : rs.length < 4611686018427387904) (hr : ∀ r ∈ rs, r.cs.length < 4611686018427387904) (hcl : c.length < 4611686018427387904) (h : (validR n rs && okCoeffs n c) = false) : Ok Tryz.prog 28 [intC n, rowsC rs, intsC c] (.fr (tupT [ocC oc0, intC 1])) := by
  have hV := Y5 n rs hl hr; have hC := YU n c hcl
  refine Ok.enter Tryz.func28 J _ Tryz.ntmps28 J ?_
  intro S w; have hw : argW [.ex (.int .i64 0), .ex (.bool false), .ex (.slice none 0 0), .ex (.slice none 0 0), .ex (.slice none 0 0), .ex (.slice none 0 0), .ex (.slice none 0 0)] (ocCs oc0) := ⟨Xp, Xp, Jv, Jv, Yd, Yd, Yd, trivial⟩
  cases hv : validR n rs with
  | false =>
    rw [hv] at hV; refine Qy (Qx fun K hK => ?_); refine Qf 0 J J zvOut J J J (Qv J J J (Qj (hK _ _ (Qz (Qy (Qy ?_)))))); clear hK K; refine Qx (fun K hK => ?_); refine Qq J J J (Qq J J J (QQ gorLValid hV J J J J (Xj J J J (Qq J J J (Qk J J J (Qk J J J (Qk J J J (Qk J J J (Qc J J J J (Qj (hK _ _ (Qz (XU J (Qy ?_)))))))))))))); clear hK K; refine Qx (fun K hK => ?_); refine Xk J bOut J .nil J (Qa 7 J J J J J szOut J J (Qv J J J (Qj (hK _ _ (Qz (Q2 (QW ?_))))))); clear hK K; refine Q1 [_, _] rfl (Xr (w_agg hw) (Qd J J lOut J (QZ J QX))) J J
  | true =>
    rw [hv, Bool.true_and] at h; rw [hv] at hV; rw [h] at hC; refine Qy (Qx fun K hK => ?_); refine Qf 0 J J zvOut J J J (Qv J J J (Qj (hK _ _ (Qz (Qy (Qy ?_)))))); clear hK K; refine Qx (fun K hK => ?_); refine Qq J J J (Qq J J J (QQ gorLValid hV J J J J (Xj J J J (Qq J J J (Qq J J J (Qq J J J (QQ gorValidGoal hC J J J J (Xj J J J (Q6 J J J J (Qj (hK _ _ (Qz (XU J (Qy ?_)))))))))))))); clear hK K; refine Qx (fun K hK => ?_); refine Xk J bOut J .nil J (Qa 7 J J J J J szOut J J (Qv J J J (Qj (hK _ _ (Qz (Q2 (QW ?_))))))); clear hK K; refine Q1 [_, _] rfl (Xr (w_agg hw) (Qd J J lOut J (QZ J QX))) J J
set_option maxHeartbeats 32000000 in
theorem rSolve_ok (n : Nat) (rs : List Rw) (c : List Int) (O : Oc) (hL : LpOk n rs c) (hm6 : rs.length ≤ 6) (hv : validR n rs = true) (hc : okCoeffs n c = true) (H : RefRun n rs c O) : Ok Tryz.prog 28 [intC n, rowsC rs, intsC c] (.fr (tupT [ocC O, intC 0])) := by
  have hn := hL.nn; have hV := Y5 n rs (by omega) (fun r hr => by have := hL.rl r hr; omega); have hC := YU n c (by have := hL.cl; omega); rw [hv] at hV; rw [hc] at hC; have hSt := start34_ok n rs (by omega) (by omega) (lp_rw hL).1
  refine Ok.enter Tryz.func28 J _ Tryz.ntmps28 J ?_
  intro S w; refine Qy (Qx fun K hK => ?_); refine Qf 0 J J zvOut J J J (Qv J J J (Qj (hK _ _ (Qz (Qy (Qy ?_)))))); clear hK K; refine Qx (fun K hK => ?_); refine Qq J J J (Qq J J J (QQ gorLValid hV J J J J (Xj J J J (Qq J J J (Qq J J J (Qq J J J (QQ gorValidGoal hC J J J J (Xj J J J (Q6 J J J J (Qj (hK _ _ (Qz (XY J (QU (Qz (Qy ?_)))))))))))))))); clear hK K; refine Qx (fun K hK => ?_); refine Qq J J J (Qq J J J (Ops.callM [(0, _)] (fun j => Nat.blt j 8) gostart34 hSt J J J (fun _ h => h.elim) (fun _ => rfl) (fun j hj => ?_) (fun j hj => .inr fun q => te_none (Nat.le_of_ble_eq_true hj)) (fun p hp => absurd hp (by simp)) (fun q j hq => ?_) (fun q hq => ?_)))
  · have hj0 : j = 0 := by
      by_cases h0 : 0 = j
      · exact h0.symm
      · rw [Q3 _ _ h0] at hj; cases hj
    subst hj0; exact ⟨rfl, fun q => te_none (by decide)⟩
  · rcases hq with hq | ⟨o, hq⟩ <;> cases hq
  have key : ∀ v, IsH rs.length v → ∃ (a : Option Addr) (l c : Nat), v = .slice a l c := fun v hv => by
    rcases hv with ⟨_, rfl⟩ | ⟨_, gb, c, _, _, rfl⟩
    · exact ⟨_, _, _, rfl⟩
    · exact ⟨_, _, _, rfl⟩
  obtain ⟨hR, hB⟩ := q; obtain ⟨hq1, hq2⟩ := hq; obtain ⟨ar, lr, cr, rfl⟩ := key hR hq1; obtain ⟨ab, lb, cb, rfl⟩ := key hB hq2; clear hq1 hq2 key hSt hV hC
  refine Ops.reB (B' := [(0, .box 46 outZ)] ++ tEnt _ _ _ _) (fun j => te_swap J _ _ _ _ j) ?_
  refine Qf 1 J J zvTab J J J (Qa 5 J J J J J szTab5 J J (Qj (hK _ _ ?_))); clear hK K; refine Qz (Qy (Zw (α := Unit) (fun _ => True) (fun _ => [(0, .ct (intC n)), (1, .ct (rowsC rs)), (2, .ct (intsC c)), (6, .own 0), (8, .own 1), (9, .ct (intC ((n : Int) + rs.length + 1)))]) (fun _ => (1, .box 102 [intC n, intC rs.length, .ex (.slice ar lr cr), .ex (.slice none 0 0), .ex (.slice ab lb cb)]) :: (0, .box 46 outZ) :: tEnt (.slice ar lr cr) (stRows n rs) (.slice ab lb cb) (rng n rs.length)) (fun _ _ => ?_) (fun KK hN => ?_))); rotate_left
  · refine Qx (fun K hK => ?_); refine QV J J J fG0 J (QJ J J J J J lInt J (QV J J J fG1 J (QJ J J J J J lInt J (Qw (iadd (by omega) (by omega)) J J J J ?_))))
    refine Qw (iadd (by omega) (by omega)) J J J J ?_
    refine Qv J J J (Qj (hK _ _ ?_)); clear hK K; exact XV hN () trivial (by exact Qu J ⟨rfl, rfl, rfl, rfl, rfl, rfl, trivial⟩)
  refine Qy (Zw (α := Unit) (fun _ => True) (fun _ => [(0, .ct (intC n)), (1, .ct (rowsC rs)), (2, .ct (intsC c)), (6, .own 0), (8, .own 1), (9, .ct (intC ((n : Int) + rs.length + 1))), (10, .ct (intC (-1)))]) (fun _ => (1, .box 102 [intC n, intC rs.length, .ex (.slice ar lr cr), .ex (.slice none 0 0), .ex (.slice ab lb cb)]) :: (0, .box 46 outZ) :: tEnt (.slice ar lr cr) (stRows n rs) (.slice ab lb cb) (rng n rs.length)) (fun _ _ => ?_) (fun KK hN => ?_)); rotate_left
  · refine Qx (fun K hK => ?_); refine Qv J J J (Qj (hK _ _ ?_)); clear hK K; exact XV hN () trivial (by exact Qu J ⟨rfl, rfl, rfl, rfl, rfl, rfl, rfl, trivial⟩)
  refine Qy ?_
  refine Zw (α := Unit) (fun _ => True) (fun _ => [(0, .ct (intC n)), (2, .ct (intsC c)), (6, .own 0), (8, .own 1), (9, .ct (intC ((n : Int) + rs.length + 1))), (10, .ct (intC (wrR rs rs.length)))])
      (fun _ => (1, .box 102 [intC n, intC rs.length, .ex (.slice ar lr cr), .ex (.slice none 0 0), .ex (.slice ab lb cb)]) :: (0, .box 46 outZ) :: tEnt (.slice ar lr cr) (stRows n rs) (.slice ab lb cb) (rng n rs.length)) (fun _ _ => sol34_mid n rs c O hL hm6 H ar ab lr cr lb cb S w) (fun KK hN => ?_)
  clear H; refine Qy (Qx fun K hK => ?_); refine Qv J J J (Qj (hK _ _ (Qz (Q0 ?_)))); clear hK K
  refine Xq (α := Nat) (fun i => i ≤ rs.length)
    (fun i => [(0, .ct (intC n)), (1, .ct (rowsC rs)), (2, .ct (intsC c)), (6, .own 0), (8, .own 1), (9, .ct (intC ((n : Int) + rs.length + 1))), (10, .ct (intC (wrR rs i))), (11, .ct (intC i))])
    (fun _ => (1, .box 102 [intC n, intC rs.length, .ex (.slice ar lr cr), .ex (.slice none 0 0), .ex (.slice ab lb cb)]) :: (0, .box 46 outZ) :: tEnt (.slice ar lr cr) (stRows n rs) (.slice ab lb cb) (rng n rs.length)) (fun i => rs.length - i) 0 (Nat.zero_le _) (by exact Qu J ⟨rfl, rfl, rfl, rfl, rfl, rfl, rfl, rfl, trivial⟩) ?_
  intro i hi
  (try dsimp only at hi ⊢)
  refine Qy (Qy (Qx fun K hK => ?_)); refine Qq J J J (QV J J J fG1 J (QJ J J J J J lInt J (Qw ilss J J J J (Qj (hK _ _ (Qz ?_)))))); clear hK K; refine QK J (fun hlt => ?_) (fun hlt => ?_)
  · have e2 : (i : Int).toNat = i := Int.toNat_natCast i
    have hlt : i < rs.length := by omega
    have bd := wrR_bd rs i
    have hwr : wrR rs (i + 1) = if (rs.getD i rw0).b < 0 ∧ (wrR rs i < 0 ∨ (rs.getD i rw0).b < (rs.getD (wrR rs i).toNat rw0).b) then (i : Int) else wrR rs i := rfl
    generalize wrR rs i = W at *; refine QU (Qz (Qy (Q0 (Qy ?_)))); refine Xv mixed 23 (.p 0 (.p 1 (.p 2 (.p 3 (.f 4 (.p 5 (.p 6 (.p 7 (.p 8 (.p 9 (.p 10 (.p 11 (.p 12 (.p 13 (.p 15 (.p 16 (.p 17 (.p 18 (.f 14 (.f 19 (.p 20 (.p 21 (.p 22 .done))))))))))))))))))))))) (by kernel_rfl) (fun K hK => ?_); refine Qq J J J (Qq J J J (Qh J J J sRows (by omega) (Zf (by omega) (by omega)) J ?_)); refine Zd J J fR1 J (Xz J J J lInt J (Qw ilss J J J J (Qq J J J ?_))); rw [e2]; refine Qp 53 J (fun h1 => ?_) (fun h1 => ?_)
    · refine Qq J J J (Qw ilss J J J J (Qq J J J (Qp 56 J (fun h2 => ?_) (fun h2 => ?_))))
      · rw [if_pos ⟨h1, .inl h2⟩] at hwr; refine Qk J J J (Qk J J J (Qk J J J (Qk J J J (Qk J J J (Qk J J J (Qk J J J (Qk J J J (Qk J J J (Qk J J J (Qk J J J (Qc J J J J (Qc J J J J (Qj (hK _ _ (Qz (XU J ?_)))))))))))))))); clear hK K; refine Qx (fun K hK => ?_); refine Qq J J J (Qv J J J (Qj (hK _ _ (Qz ?_)))); clear hK K; refine Qx (fun K hK => ?_); refine Qq J J J (Qw (iadd (by omega) (by omega)) J J J J ?_); refine Qv J J J (Qj (hK _ _ (Q4 ?_))); clear hK K; refine Qb (i + 1) (by omega) (by omega) (by refine Qu J ⟨rfl, rfl, rfl, rfl, rfl, rfl, by rw [hwr]; rfl, by simp only [Int.natCast_add]; rfl, trivial⟩)
      · obtain ⟨W', rfl⟩ := Int.eq_ofNat_of_zero_le (show 0 ≤ W by omega); have e3 : (W' : Int).toNat = W' := Int.toNat_natCast W'; rw [e3] at hwr; refine Qq J J J (Qq J J J (Qh J J J sRows (by omega) (Zf (by omega) (by omega)) J ?_)); refine Zd J J fR1 J (Qq J J J (Qq J J J (Qh J J J sRows (by omega) (Zf (by omega) (by omega)) J ?_))); refine Zd J J fR1 J (Xz J J J lInt J (Xz J J J lInt J (Qw ilss J J J J (Q6 J J J J (Qc J J J J (Qj (hK _ _ (Qz ?_)))))))); clear hK K; rw [e2]; skip; rw [e3]; skip; refine QK J (fun h3 => ?_) (fun h3 => ?_)
        · rw [if_pos ⟨h1, .inr h3⟩] at hwr; refine Qx (fun K hK => ?_); refine Qq J J J (Qv J J J (Qj (hK _ _ (Qz ?_)))); clear hK K; refine Qx (fun K hK => ?_); refine Qq J J J (Qw (iadd (by omega) (by omega)) J J J J ?_); refine Qv J J J (Qj (hK _ _ (Q4 ?_))); clear hK K; refine Qb (i + 1) (by omega) (by omega) (by refine Qu J ⟨rfl, rfl, rfl, rfl, rfl, rfl, by rw [hwr]; rfl, by simp only [Int.natCast_add]; rfl, trivial⟩)
        · rw [if_neg (fun h => h.2.elim h2 h3)] at hwr; refine QU (Qz (Qx fun K hK => ?_)); refine Qq J J J (Qw (iadd (by omega) (by omega)) J J J J ?_); refine Qv J J J (Qj (hK _ _ (Q4 ?_))); clear hK K; refine Qb (i + 1) (by omega) (by omega) (by refine Qu J ⟨rfl, rfl, rfl, rfl, rfl, rfl, by rw [hwr]; rfl, by simp only [Int.natCast_add]; rfl, trivial⟩)
    · rw [if_neg (fun h => h1 h.1)] at hwr; refine Qk J J J (Qk J J J (Qk J J J (Qk J J J (Qk J J J (Qk J J J (Qk J J J (Qk J J J (Qk J J J (Qk J J J (Qk J J J (Qk J J J (Qk J J J (Qk J J J (Qk J J J (Q6 J J J J (Qj (hK _ _ (Qz (XY J (QU (Qz ?_))))))))))))))))))))); clear hK K; refine Qx (fun K hK => ?_); refine Qq J J J (Qw (iadd (by omega) (by omega)) J J J J ?_); refine Qv J J J (Qj (hK _ _ (Q4 ?_))); clear hK K; refine Qb (i + 1) (by omega) (by omega) (by refine Qu J ⟨rfl, rfl, rfl, rfl, rfl, rfl, by rw [hwr]; rfl, by simp only [Int.natCast_add]; rfl, trivial⟩)
  · have hi' : i = rs.length := by omega
    subst hi'; refine Qr (Zy (Zy (Yl ?_))); exact XV hN () trivial (by exact Qu J ⟨rfl, rfl, rfl, rfl, rfl, rfl, trivial⟩)
theorem gorMaximum : InGo Tryz.prog 31 := InGo.of Tryz.func31 (by kernel_rfl) (by kernel_rfl)
theorem gorFeasible : InGo Tryz.prog 35 := InGo.of Tryz.func35 (by kernel_rfl) (by kernel_rfl)
theorem gorNegative : InGo Tryz.prog 91 := InGo.of Tryz.func91 (by kernel_rfl) (by kernel_rfl)
theorem gorMinimum : InGo Tryz.prog 33 := InGo.of Tryz.func33 (by kernel_rfl) (by kernel_rfl)
theorem frz_w : argW [.ex (.bool false), .ex (.slice none 0 0), .ex (.slice none 0 0)] (frCs frz0) := ⟨Xp, Jv, Jv, trivial⟩
set_option maxHeartbeats 8000000 in
theorem rMaximum_of (n : Int) (rs : List Rw) (c : List Int) (O : Oc) (e : Int) (hk : O.kind ≠ 1 → O.value = frz0) (he : O.kind = 1 → e = 0) (hS : Ok Tryz.prog 28 [intC n, rowsC rs, intsC c] (.fr (tupT [ocC O, intC e]))) :
    Ok Tryz.prog 31 [intC n, rowsC rs, intsC c] (.fr (tupT [fracC O.value, boolC (decide (O.kind = 1)), intC e])) := by
  refine Ok.enter Tryz.func31 J _ Tryz.ntmps31 J ?_
  intro S w; refine Qy (Qx fun K hK => ?_); refine Qf 0 J J zvFrac J J J (Qv J J J (Qv J J J (Qj (hK _ _ (Qz (Qy ?_)))))); clear hK K; refine Qx (fun K hK => ?_); refine Qq J J J (Qq J J J (Qq J J J (QQ gorSolve hS J J J J (Qq J J J (QY J J J J (QY J J J J (Qf 1 J J zvOut J J J (Qa 7 J J J J J szOut J J (Qv J J J (Qj (hK _ _ (Qz (Qy (Qy ?_)))))))))))))); clear hK K; refine Qx (fun K hK => ?_); refine Qq J J J (Qw ineq J J J J (Qq J J J (Qp 20 J (fun h => ?_) (fun h => ?_))))
  · have h1 : O.kind ≠ 1 := fun h1 => h (he h1)
    refine Qk J J J (Qk J J J (Qk J J J (Qc J J J J (Qj (hK _ _ (Qz (XU J (Qy ?_)))))))); clear hK K; refine Qx (fun K hK => ?_); refine Xk J bFrac J .nil J (Qq J J J (Qa 3 J J J J J szFrac J J (Qv J J J (Qv J J J (Qj (hK _ _ (Qz (Q2 (QW ?_))))))))); clear hK K; refine Q1 [_, _, _] rfl (Xr (w_agg frz_w) (Qd J J Xy J (QZ J (QZ J QX)))) (by rw [hk h1, decide_eq_false h1]; rfl) J
  · obtain rfl : e = 0 := by omega
    skip; refine QV J J J fO0 J (QJ J J J J J lInt J (Qw ineq J J J J (Q6 J J J J (Qj (hK _ _ (Qz ?_)))))); clear hK K; refine QK J (fun h2 => ?_) (fun h2 => ?_)
    · skip; refine Qy (Qx fun K hK => ?_); refine Xk J bFrac J .nil J (Qq J J J (Qa 3 J J J J J szFrac J J (Qv J J J (Qv J J J (Qj (hK _ _ (Qz (Q2 (QW ?_))))))))); clear hK K; refine Q1 [_, _, _] rfl (Xr (w_agg frz_w) (Qd J J Xy J (QZ J (QZ J QX)))) (by rw [hk h2, decide_eq_false h2]; rfl) J
    · have h3 : O.kind = 1 := by omega
      refine QU (Qz (Qy (Qx fun K hK => ?_))); refine QV J J J fO1 J (Zc (n := 3) J J J J (Nat.le_of_ble_eq_true J) Xy J (Qa 3 J J J J J szFrac J J (Qv J J J (Qv J J J (Qj (hK _ _ (Qz (Q2 ?_)))))))); clear hK K; refine Q1 [_, _, _] rfl (Qd J J Xy J (QZ J (QZ J QX))) (by rw [decide_eq_true h3]; rfl) J
set_option maxHeartbeats 8000000 in
theorem rFeasible_of (n : Int) (rs : List Rw) (O : Oc) (e : Int) (hS : Ok Tryz.prog 28 [intC n, rowsC rs, intsC []] (.fr (tupT [ocC O, intC e]))) :
    Ok Tryz.prog 35 [intC n, rowsC rs] (.fr (tupT [boolC (decide (e = 0) && decide (O.kind ≠ 3)), intC e])) := by
  have hS' := hS.weak (As' := [intC n, rowsC rs, .ex (.slice none 0 0)]) ⟨Xp, Xp, Yd, trivial⟩
  refine Ok.enter Tryz.func35 J _ Tryz.ntmps35 J ?_
  intro S w; refine Qy (Qx fun K hK => ?_); refine Qv J J J (Qv J J J (Qj (hK _ _ (Qz (Qy ?_))))); clear hK K; refine Qx (fun K hK => ?_); refine Qq J J J (Qq J J J (QQ gorSolve hS' J J J J (Qq J J J (QY J J J J (QY J J J J (Qf 1 J J zvOut J J J (Qa 7 J J J J J szOut J J (Qv J J J (Qj (hK _ _ (Qz (Qy ?_)))))))))))); clear hK K; refine Qx (fun K hK => ?_); refine Qq J J J (Qw ieql J J J J (Qq J J J ?_)); by_cases he : e = 0
  · subst he; skip; refine QV J J J fO0 J (QJ J J J J J lInt J (Qw ineq J J J J (Qc J J J J (Qq J J J (Qv J J J (Qv J J J (Qj (hK _ _ (Qz (Q2 ?_)))))))))); clear hK K; refine Q1 [_, _] rfl (QZ J (QZ J QX)) J J
  · refine Qp 16 J (fun h => absurd h he) (fun h => ?_); refine Qk J J J (Qk J J J (Qk J J J (Q6 J J J J (Qq J J J (Qv J J J (Qv J J J (Qj (hK _ _ (Qz (Q2 ?_)))))))))); clear hK K; refine Q1 [_, _] rfl (QZ J (QZ J QX)) (by rw [decide_eq_false he]; rfl) J
set_option maxHeartbeats 8000000 in
theorem rNegative_ok (c : List Int) (hcl : c.length ≤ 1000) : Ok Tryz.prog 91 [intsC c] (intsC (c.map wneg)) := by
  refine Ok.enter Tryz.func91 J _ Tryz.ntmps91 J ?_
  intro S w; refine Qy (Qx fun K hK => ?_); refine Qv J J J (Qj (hK _ _ (Qz (Qy ?_)))); clear hK K; refine Qx (fun K hK => ?_); refine Qv J J J (Qj (hK _ _ (Qz (Qy (Qy ?_))))); clear hK K; refine Qx (fun K hK => ?_); refine Qv J J J (Qj (hK _ _ (Qz (Q0 ?_)))); clear hK K
  refine Yv 3 1 3 1 J J J ?_
  refine Xq (α := Nat) (fun i => i ≤ c.length)
    (fun i => [(0, .ct (intsC c)), (3, .own 1), (4, .ct (intC i))]) (fun i => [(1, .row 3 1 (ints ((c.take i).map wneg)))]) (fun i => c.length - i) 0 (Nat.zero_le _) (by exact Qu J ⟨rfl, rfl, rfl, trivial⟩) ?_
  intro i hi
  (try dsimp only at hi ⊢)
  refine Qy (Qy (Qx fun K hK => ?_)); refine Qq J J J (Qq J J J (Q7 J J sInts.und (List.length_map ..) J (Qw ilss J J J J (Qj (hK _ _ (Qz ?_)))))); clear hK K; refine QK J (fun h => ?_) (fun h => ?_)
  · have ki : (i : Int).toNat = i := Int.toNat_natCast _; refine QU (Qz (Qy (Q0 (Qx fun K hK => ?_)))); refine Qq J J J (Qq J J J (Qq J J J (Qh J J J sInts (by omega) (X3 (by omega) (by omega)) J ?_)))
    refine Xz J J J lInt J ?_
    rw [ki]; refine Ops.inegW J J J (XQ J J sInts J J J (Qi i (ints ((c.take (i + 1)).map wneg)) J J J J sInts (by simp [ints]; omega) J (by omega) (by omega) (by rw [take_map_succ wneg 0 (by omega)]; simp [ints]) J ?_)); refine Qv J J J (Qj (hK _ _ (Qz ?_))); clear hK K; refine Qx (fun K hK => ?_); refine Qq J J J (Qw (iadd (by omega) (by omega)) J J J J ?_); refine Qv J J J (Qj (hK _ _ (Q4 ?_))); clear hK K; refine Qb (i + 1) (by omega) (by omega) (by exact Qu J ⟨rfl, rfl, by simp only [Int.natCast_add]; rfl, trivial⟩)
  · have hi' : i = c.length := by omega
    subst hi'; rw [List.take_length]; refine Xl 1 _ J (Xc _ _) Xe (Qr (Qz (Qy (Qx fun K hK => ?_)))); refine Qq J J J (Qv J J J (Qj (hK _ _ (Qz (Q2 ?_))))); clear hK K; refine Q1 [_] rfl (QZ J QX) J J
set_option maxHeartbeats 8000000 in
theorem rMinimum_bad (n : Int) (rs : List Rw) (c : List Int) (hl : rs.length < 4611686018427387904) (hr : ∀ r ∈ rs, r.cs.length < 4611686018427387904) (hcl : c.length < 4611686018427387904) (h : (validR n rs && okCoeffs n c) = false) : Ok Tryz.prog 33 [intC n, rowsC rs, intsC c] (.fr (tupT [fracC frz0, boolC false, intC 1])) := by
  have hV := Y5 n rs hl hr; have hC := YU n c hcl
  refine Ok.enter Tryz.func33 J _ Tryz.ntmps33 J ?_
  intro S w
  cases hv : validR n rs with
  | false =>
    rw [hv] at hV; refine Qy (Qx fun K hK => ?_); refine Qf 0 J J zvFrac J J J (Qv J J J (Qv J J J (Qj (hK _ _ (Qz (Qy (Qy ?_))))))); clear hK K; refine Qx (fun K hK => ?_); refine Qq J J J (Qq J J J (QQ gorLValid hV J J J J (Xj J J J (Qq J J J (Qk J J J (Qk J J J (Qk J J J (Qk J J J (Qc J J J J (Qj (hK _ _ (Qz (XU J (Qy ?_)))))))))))))); clear hK K; refine Qx (fun K hK => ?_); refine Xk J bFrac J .nil J (Qa 3 J J J J J szFrac J J (Qv J J J (Qv J J J (Qj (hK _ _ (Qz (Q2 (QW ?_)))))))); clear hK K; refine Q1 [_, _, _] rfl (Xr (w_agg frz_w) (Qd J J Xy J (QZ J (QZ J QX)))) J J
  | true =>
    rw [hv, Bool.true_and] at h; rw [hv] at hV; rw [h] at hC; refine Qy (Qx fun K hK => ?_); refine Qf 0 J J zvFrac J J J (Qv J J J (Qv J J J (Qj (hK _ _ (Qz (Qy (Qy ?_))))))); clear hK K; refine Qx (fun K hK => ?_); refine Qq J J J (Qq J J J (QQ gorLValid hV J J J J (Xj J J J (Qq J J J (Qq J J J (Qq J J J (QQ gorValidGoal hC J J J J (Xj J J J (Q6 J J J J (Qj (hK _ _ (Qz (XU J (Qy ?_)))))))))))))); clear hK K; refine Qx (fun K hK => ?_); refine Xk J bFrac J .nil J (Qa 3 J J J J J szFrac J J (Qv J J J (Qv J J J (Qj (hK _ _ (Qz (Q2 (QW ?_)))))))); clear hK K; refine Q1 [_, _, _] rfl (Xr (w_agg frz_w) (Qd J J Xy J (QZ J (QZ J QX)))) J J
set_option maxHeartbeats 8000000 in
theorem rMinimum_of (n : Int) (rs : List Rw) (c : List Int) (O : Oc) (hcl : c.length ≤ 1000) (hrl : rs.length < 4611686018427387904) (hr : ∀ r ∈ rs, r.cs.length < 4611686018427387904) (hv : validR n rs = true) (hc : okCoeffs n c = true) (hk : O.kind ≠ 1 → O.value = frz0)
    (hk1 : O.kind = 1 → ∃ q : Rat, O.value = ofQ q ∧ (limbs (ofQ q).num).length ≤ 20 ∧ (limbs (ofQ q).den).length ≤ 20)
    (hS : Ok Tryz.prog 28 [intC n, rowsC rs, intsC (c.map wneg)] (.fr (tupT [ocC O, intC 0]))) :
    Ok Tryz.prog 33 [intC n, rowsC rs, intsC c] (.fr (tupT [fracC (vneg O.value), boolC (decide (O.kind = 1)), intC 0])) := by
  have hV := Y5 n rs hrl hr; have hC := YU n c (by omega); rw [hv] at hV; rw [hc] at hC; have hN := rNegative_ok c hcl; have hM := rMaximum_of n rs (c.map wneg) O 0 hk (fun _ => rfl) hS; by_cases h1 : O.kind = 1
  · obtain ⟨q, hq, l1, l2⟩ := hk1 h1; rw [decide_eq_true h1, hq] at hM; rw [decide_eq_true h1, hq, vneg_q]; have hW0 : Ok Tryz.prog 61 [intC 0] (ratC 0) := Zn 0 (by decide) (by decide)
    have l3 : (limbs (ofQ 0).num).length ≤ 20 := by decide +kernel
    have l4 : (limbs (ofQ 0).den).length ≤ 20 := by decide +kernel
    have hSb := rFSub_q 0 q l3 l4 l1 l2; rw [show (0 : Rat) - q = -q by grind] at hSb
    refine Ok.enter Tryz.func33 J _ Tryz.ntmps33 J ?_
    intro S w; refine Qy (Qx fun K hK => ?_); refine Qf 0 J J zvFrac J J J (Qv J J J (Qv J J J (Qj (hK _ _ (Qz (Qy (Qy ?_))))))); clear hK K; refine Qx (fun K hK => ?_); refine Qq J J J (Qq J J J (QQ gorLValid hV J J J J (Xj J J J (Qq J J J (Qq J J J (Qq J J J (QQ gorValidGoal hC J J J J (Xj J J J (Q6 J J J J (Qj (hK _ _ (Qz (XY J (QU (Qz (Qy ?_)))))))))))))))); clear hK K; refine Qx (fun K hK => ?_); refine Qq J J J (Qq J J J (Qq J J J (QQ gorNegative hN J J J J (QQ gorMaximum hM J J J J (Qq J J J (QY J J J J (QY J J J J (QY J J J J (Qf 1 J J zvFrac J J J (Qa 3 J J J J J szFrac J J (Qv J J J (Qv J J J (Qj (hK _ _ (Qz (Qy (Qy ?_))))))))))))))))); clear hK K; refine Qx (fun K hK => ?_); refine Qq J J J (Qw ineq J J J J (Qq J J J (Qq J J J (Xj J J J (Q6 J J J J (Qj (hK _ _ (Qz (XY J (QU (Qz (Qy ?_)))))))))))); clear hK K; refine Xv mixed 6 (.f 1 (.m 0 (.m 2 (.p 3 (.p 4 (.p 5 (.a 6 (.p 7 .done)))))))) (by kernel_rfl) (fun K hK => ?_)
    refine Qt (n := 3) J J J J J Xy J (QQ Zs hW0 J J J J (QQ gorFSub hSb J J J J (Qq J J J (QY J J J J (QY J J J J (Qa 3 J J J J J szFrac J J (Qv J J J (Qj (hK _ _ (Qz (Qy ?_))))))))))); clear hK K; refine Qx (fun K hK => ?_); refine Qt (n := 3) J J J J J Xy J (Qq J J J (Qw ieql J J J J (Qq J J J (Qa 3 J J J J J szFrac J J (Qv J J J (Qv J J J (Qj (hK _ _ (Qz (Q2 ?_)))))))))); clear hK K; refine Q1 [_, _, _] rfl (Qd J J Xy J (QZ J (QZ J QX))) J J
  · rw [decide_eq_false h1, hk h1] at hM; rw [decide_eq_false h1, hk h1, show vneg frz0 = frz0 from rfl]
    refine Ok.enter Tryz.func33 J _ Tryz.ntmps33 J ?_
    intro S w; refine Qy (Qx fun K hK => ?_); refine Qf 0 J J zvFrac J J J (Qv J J J (Qv J J J (Qj (hK _ _ (Qz (Qy (Qy ?_))))))); clear hK K; refine Qx (fun K hK => ?_); refine Qq J J J (Qq J J J (QQ gorLValid hV J J J J (Xj J J J (Qq J J J (Qq J J J (Qq J J J (QQ gorValidGoal hC J J J J (Xj J J J (Q6 J J J J (Qj (hK _ _ (Qz (XY J (QU (Qz (Qy ?_)))))))))))))))); clear hK K; refine Qx (fun K hK => ?_); refine Qq J J J (Qq J J J (Qq J J J (QQ gorNegative hN J J J J (QQ gorMaximum hM J J J J (Qq J J J (QY J J J J (QY J J J J (QY J J J J (Qf 1 J J zvFrac J J J (Qa 3 J J J J J szFrac J J (Qv J J J (Qv J J J (Qj (hK _ _ (Qz (Qy (Qy ?_))))))))))))))))); clear hK K; refine Qx (fun K hK => ?_); refine Qq J J J (Qw ineq J J J J (Qq J J J (Qq J J J (Xj J J J (Q6 J J J J (Qj (hK _ _ (Qz (XU J (Qy ?_)))))))))); clear hK K; refine Qx (fun K hK => ?_); refine Xk J bFrac J .nil J (Qq J J J (Qa 3 J J J J J szFrac J J (Qv J J J (Qv J J J (Qj (hK _ _ (Qz (Q2 (QW ?_))))))))); clear hK K
    refine Q1 [_, _, _] rfl (Xr (w_agg frz_w) (Qd J J Xy J (QZ J (QZ J QX)))) J J
end Go.Proofs.YtdhmbgogmoaofaaGreat
namespace Go.Proofs.YtdhmbgogmoaofaaGreat
open Go.Own Go.Limbs
attribute [local irreducible] St Ops Go.Own.Fin Ok
def growB (rs : List Rw) (c : List Int) (ray : List Fr) : Bool := rs.all (fun r => !decide (0 < (vsum r.cs ray).num)) && decide (0 < (vsum c ray).num)
theorem lFracs : Ld1 Tryz.prog 25 := Ld1.of _ Tryz.underlying25 rfl
section
variable (N : Nat) (rs : List Rw) (c : List Int) (pt ray du : List Fr) (hv : validR N rs = true) (hc : okCoeffs N c = true)
include hv hc
end
theorem gorzero : InGo Tryz.prog 76 := InGo.of Tryz.func76 (by kernel_rfl) (by kernel_rfl)
theorem rzero_frz : Ok Tryz.prog 76 [fracC frz0] (boolC true) := by
  refine Ok.enter Tryz.func76 J _ Tryz.ntmps76 J ?_
  intro S w
  have e : (limbs frz0.num).length = 0 := by decide +kernel
  have e' : (limbs frz0.den).length = 0 := by decide +kernel
  have e2 : frz0.neg = false := rfl; generalize frz0 = f at *; refine Qy (Qx fun K hK => ?_); refine XZ 0 J J J J J J J (Qv J J J (Qj (hK _ _ (Qz (Qy ?_))))); clear hK K; refine Qx (fun K hK => ?_); refine QV J J J fF0 J (QJ J J J J J lBool J (Xj J J J (Qq J J J ?_))); rw [e2]; refine QV J J J fF1 J (QJ J J J J J lNat J (Q7 J J sNat.und (List.length_map ..) J (Qw ieql J J J J (Qc J J J J (Qq J J J ?_))))); rw [e]; refine QV J J J fF2 J (QJ J J J J J lNat J (Q7 J J sNat.und (List.length_map ..) J (Qw ieql J J J J (Qc J J J J (Qv J J J (Qj (hK _ _ (Qz (Q2 ?_))))))))); clear hK K; rw [e']; skip; refine Q1 [_] rfl (QZ J QX) J J
theorem gorgrows : InGo Tryz.prog 77 := InGo.of Tryz.func77 (by kernel_rfl) (by kernel_rfl)
set_option maxHeartbeats 8000000 in
theorem rgrows_gen (n : Nat) (rs : List Rw) (c : List Int) (ray : List Fr) (hl : ray.length = n) (hn : n ≤ 64) (hrl : rs.length ≤ 64) (hx : ∀ f ∈ ray, VF f) (hneg : ∀ f ∈ ray, f.neg = false) (hR : ∀ r ∈ rs, VFit r.cs ray) (hC : VFit c ray) :
    Ok Tryz.prog 77 [intC n, rowsC rs, intsC c, fracsC ray] (boolC (growB rs c ray)) := by
  have hP := Point_ok n ray (by omega) hx; rw [decide_eq_true (show (ray.length : Int) = (n : Int) by omega), show ray.any (fun f => f.neg) = false from List.any_eq_false.2 fun f hf => by rw [hneg f hf]; decide] at hP; have hP : Ok Tryz.prog 66 [intC n, fracsC ray] (boolC true) := hP; have hVc := rValue_gen c ray hC; have hSc := Jk (ofQ (vsum c ray)); rw [sgnF_q] at hSc
  refine Ok.enter Tryz.func77 J _ Tryz.ntmps77 J ?_
  intro S w; refine Qy (Qx fun K hK => ?_); refine Qv J J J (Qj (hK _ _ (Qz (Qy (Qy ?_))))); clear hK K; refine Qx (fun K hK => ?_); refine Qq J J J (Qq J J J (QQ goPoint hP J J J J (Xj J J J (Qj (hK _ _ (Qz (XY J (QU (Qz (Qy (Qy ?_))))))))))); clear hK K; refine Qx (fun K hK => ?_); refine Qv J J J (Qj (hK _ _ (Qz (Q0 ?_)))); clear hK K
  refine Xq (α := Nat) (fun i => i ≤ rs.length ∧ ∀ j, j < i → ¬ 0 < (vsum (rs.getD j rw0).cs ray).num)
    (fun i => [(1, .ct (rowsC rs)), (2, .ct (intsC c)), (3, .ct (fracsC ray)), (9, .ct (intC i))]) (fun _ => []) (fun i => rs.length - i) 0 ⟨Nat.zero_le _, fun j h => absurd h (Nat.not_lt_zero j)⟩ (by exact Qu J ⟨rfl, rfl, rfl, rfl, trivial⟩) ?_
  intro i ⟨hi, hj⟩
  (try dsimp only at hi hj ⊢)
  refine Qy (Qy (Qx fun K hK => ?_)); refine Qq J J J (Qq J J J (Q7 J J sRows.und (List.length_map ..) J (Qw ilss J J J J (Qj (hK _ _ (Qz ?_)))))); clear hK K; refine QK J (fun h => ?_) (fun h => ?_)
  · have e2 : (i : Int).toNat = i := Int.toNat_natCast i
    have hlt : i < rs.length := by omega
    have hmem := X1 (z := rw0) hlt; have hVal := rValue_gen (rs.getD i rw0).cs ray (hR _ hmem); have hS := Jk (ofQ (vsum (rs.getD i rw0).cs ray)); rw [sgnF_q] at hS
    have hbad : 0 < (vsum (rs.getD i rw0).cs ray).num.sign → growB rs c ray = false := fun hgt => by
      unfold growB; rw [List.all_eq_false.mpr ⟨_, hmem, by rw [decide_eq_true (Int.sign_pos_iff.1 hgt)]; decide⟩]; rfl
    have hgood : ¬ 0 < (vsum (rs.getD i rw0).cs ray).num.sign → ∀ j, j < i + 1 → ¬ 0 < (vsum (rs.getD j rw0).cs ray).num := fun hng j hj' => by
      rcases Nat.lt_or_ge j i with h3 | h3
      · exact hj j h3
      · have : j = i := by omega
        rw [this]; exact fun h => hng (Int.sign_pos_iff.2 h)
    refine QU (Qz (Qy (Q0 (Qy (Qx fun K hK => ?_))))); refine Qq J J J (Qq J J J (Qh J J J sRows (by omega) (Zf (by omega) (by omega)) J ?_)); refine Zd J J fR0 J (Xz J J J lInts J (Qq J J J ?_)); rw [e2]; generalize rs.getD i rw0 = r0 at hVal hS hbad hgood ⊢; skip; refine QQ gorValue hVal J J J J (Qq J J J (QY J J J J (QY J J J J (Qf 0 J J zvFrac J J J (Qa 3 J J J J J szFrac J J (Qv J J J (Qj (hK _ _ (Qz (Qy ?_)))))))))); clear hK K; refine Qx (fun K hK => ?_); refine Qq J J J (Qw ineq J J J J (Qq J J J (Qt (n := 3) J J J J J Xy J (QQ goSign hS J J J J (Qw igtr J J J J (Q6 J J J J (Qj (hK _ _ (Qz ?_))))))))); clear hK K; refine QK J (fun h3 => ?_) (fun h3 => ?_)
    · refine Qy (Qx fun K hK => ?_); refine Qv J J J (Qj (hK _ _ (Qz (Q2 (Qe (QW (QW (Qe (QW ?_))))))))); clear hK K; refine Q1 [_] rfl (QZ J QX) (by rw [hbad h3]; rfl) J
    · refine QU (Qz (Qx fun K hK => ?_)); refine Qq J J J (Qw (iadd (by omega) (by omega)) J J J J ?_); refine Qv J J J (Qj (hK _ _ (Q4 ?_))); clear hK K; refine Xb 0 (Qb (i + 1) (by omega) ⟨by omega, hgood h3⟩ (by exact Qu J ⟨rfl, rfl, rfl, by simp only [Int.natCast_add]; rfl, trivial⟩))
  · have hi' : i = rs.length := by omega
    have hall : growB rs c ray = decide (0 < (vsum c ray).num.sign) := by
      unfold growB; rw [List.all_eq_true.mpr (fun r hr => ?_), decide_eq_decide.2 (Int.sign_pos_iff (x := (vsum c ray).num))]
      · rfl
      · obtain ⟨k, hk, rfl⟩ := List.getElem_of_mem hr; have := hj k (by omega); rw [show rs.getD k rw0 = rs[k] by simp [List.getD_eq_getElem?_getD, List.getElem?_eq_getElem hk]] at this; rw [decide_eq_false this]; rfl
    rw [hall]; refine Qr (Qz (Qy (Qx fun K hK => ?_))); refine Qq J J J (Qq J J J (QQ gorValue hVc J J J J (Qq J J J (QY J J J J (QY J J J J (Qf 0 J J zvFrac J J J (Qa 3 J J J J J szFrac J J (Qv J J J (Qj (hK _ _ (Qz (Qy ?_)))))))))))); clear hK K; refine Qx (fun K hK => ?_); refine Qq J J J (Qw ieql J J J J (Qq J J J (Qt (n := 3) J J J J J Xy J (QQ goSign hSc J J J J (Qw igtr J J J J (Qc J J J J (Qv J J J (Qj (hK _ _ (Qz (Q2 ?_))))))))))); clear hK K; refine Q1 [_] rfl (QZ J QX) J J
theorem gorCheck : InGo Tryz.prog 23 := InGo.of Tryz.func23 (by kernel_rfl) (by kernel_rfl)
section
variable (N : Nat) (rs : List Rw) (c : List Int) (pt ray du : List Fr) (hv : validR N rs = true) (hc : okCoeffs N c = true)
include hv hc
theorem rCheck_pre : Ok Tryz.prog 30 [intC N, rowsC rs] (boolC true) ∧ Ok Tryz.prog 75 [intC N, intsC c] (boolC true) := by
  obtain ⟨v1, v2, v3, v4⟩ := Z3 hv; have h1 := Y5 N rs (by omega) (fun r hr => by have := (v4 r hr).1; omega); rw [hv] at h1; have hc' := hc; unfold okCoeffs at hc'; simp only [Bool.and_eq_true, decide_eq_true_eq, Bool.not_eq_true'] at hc'; have h2 := YU N c (by omega); rw [hc] at h2; exact ⟨h1, h2⟩
set_option maxHeartbeats 8000000 in
theorem rCheck_opt (val : Rat) (hS : Ok Tryz.prog 21 [intC N, rowsC rs, fracsC pt] (boolC true)) (hV : Ok Tryz.prog 18 [intsC c, fracsC pt] (.fr (tupT [ratC val, intC 0]))) (hs : SzQ val) (hB : Ok Tryz.prog 54 [intC N, rowsC rs, intsC c, fracsC du, ratC val] (boolC true)) :
    Ok Tryz.prog 23 [intC N, rowsC rs, intsC c, ocC ⟨1, ofQ val, pt, [], du⟩] (boolC true) := by
  obtain ⟨p1, p2⟩ := rCheck_pre N rs c hv hc; have hL := rFCompare_q val val (by have := hs.n; omega) (by have := hs.d; omega) (by have := hs.n; omega) (by have := hs.d; omega); rw [cmpQ_self] at hL
  refine Ok.enter Tryz.func23 J _ Tryz.ntmps23 J ?_
  intro S w; refine Qy (Qx fun K hK => ?_); refine XZ 0 J J J J J J J (Qv J J J (Qj (hK _ _ (Qz (Qy (Qy ?_)))))); clear hK K; refine Qx (fun K hK => ?_); refine Qq J J J (Qq J J J (QQ gorLValid p1 J J J J (Xj J J J (Qq J J J (Qq J J J (Qq J J J (QQ gorValidGoal p2 J J J J (Xj J J J (Q6 J J J J (Qj (hK _ _ (Qz (XY J (QU (Qz (Qy (Qy ?_))))))))))))))))); clear hK K; refine Qx (fun K hK => ?_); refine QV J J J fO0 J (QJ J J J J J lInt J (Qj (hK _ _ (Qz (Q0 (Qy ?_)))))); clear hK K; refine Qx (fun K hK => ?_); refine Qw ieql J J J J (Qv J J J (Qj (hK _ _ (Qz (XU J (Qy (Qy ?_))))))); clear hK K; refine Qx (fun K hK => ?_); refine QV J J J fO3 J (QJ J J J J J lFracs J (Q7 J J sFracs.und (List.length_map ..) J (Qw igtr J J J J (Qq J J J (Qq J J J (Qq J J J (QV J J J fO2 J (QJ J J J J J lFracs J (QQ gorSatisfies hS J J J J (Xj J J J (Q6 J J J J (Qq J J J (QV J J J fO1 J (Zc (n := 3) J J J J (Nat.le_of_ble_eq_true J) Xy J (QQ gorFValid (rFValid_V _ hs.vf) J J J J (Xj J J J (Q6 J J J J (Qj (hK _ _ (Qz (XY J (QU (Qz (Qy ?_)))))))))))))))))))))))); clear hK K; refine Qx (fun K hK => ?_)
  refine Qq J J J (QV J J J fO2 J (QJ J J J J J lFracs J (QQ gorValue hV J J J J (Qq J J J (QY J J J J (QY J J J J (Qf 1 J J zvFrac J J J (Qa 3 J J J J J szFrac J J (Qv J J J (Qj (hK _ _ (Qz (Qy ?_))))))))))))); clear hK K; refine Qx (fun K hK => ?_); refine Qt (n := 3) J J J J J Xy J (QV J J J fO1 J (Zc (n := 3) J J J J (Nat.le_of_ble_eq_true J) Xy J (QQ Jj hL J J J J (Qq J J J (QY J J J J (QY J J J J (Qv J J J (Qv J J J (Qj (hK _ _ (Qz (Qy ?_)))))))))))); clear hK K; refine Qx (fun K hK => ?_); refine Qq J J J (Qw ieql J J J J (Qq J J J (Qq J J J (Qw ieql J J J J (Qc J J J J (Qq J J J (Qq J J J (Qq J J J (Qq J J J (QV J J J fO4 J (QJ J J J J J lFracs J (QV J J J fO1 J (Zc (n := 3) J J J J (Nat.le_of_ble_eq_true J) Xy J (QQ gorBounds hB J J J J (Qc J J J J (Qv J J J (Qj (hK _ _ (Qz (Q2 (Qe (QW ?_)))))))))))))))))))))); clear hK K; refine Q1 [_] rfl (QZ J QX) J J
set_option maxHeartbeats 8000000 in
theorem rCheck_unb (hS : Ok Tryz.prog 21 [intC N, rowsC rs, fracsC pt] (boolC true)) (hG : Ok Tryz.prog 77 [intC N, rowsC rs, intsC c, fracsC ray] (boolC true)) :
    Ok Tryz.prog 23 [intC N, rowsC rs, intsC c, ocC ⟨2, frz0, pt, ray, []⟩] (boolC true) := by
  obtain ⟨p1, p2⟩ := rCheck_pre N rs c hv hc; have hZ := rzero_frz; generalize frz0 = fz at *
  refine Ok.enter Tryz.func23 J _ Tryz.ntmps23 J ?_
  intro S w; refine Qy (Qx fun K hK => ?_); refine XZ 0 J J J J J J J (Qv J J J (Qj (hK _ _ (Qz (Qy (Qy ?_)))))); clear hK K; refine Qx (fun K hK => ?_); refine Qq J J J (Qq J J J (QQ gorLValid p1 J J J J (Xj J J J (Qq J J J (Qq J J J (Qq J J J (QQ gorValidGoal p2 J J J J (Xj J J J (Q6 J J J J (Qj (hK _ _ (Qz (XY J (QU (Qz (Qy (Qy ?_))))))))))))))))); clear hK K; refine Qx (fun K hK => ?_); refine QV J J J fO0 J (QJ J J J J J lInt J (Qj (hK _ _ (Qz (Q0 (Qy ?_)))))); clear hK K; refine Qx (fun K hK => ?_); refine Qw ieql J J J J (Qv J J J (Qj (hK _ _ (Qz (XY J (Qy ?_)))))); clear hK K; refine Qx (fun K hK => ?_); refine Qw ieql J J J J (Qv J J J (Qj (hK _ _ (Qz (XU J (Qy ?_)))))); clear hK K; refine Qx (fun K hK => ?_)
  refine QV J J J fO4 J (QJ J J J J J lFracs J (Q7 J J sFracs.und (List.length_map ..) J (Qw ieql J J J J (Qq J J J (QV J J J fO1 J (Zc (n := 3) J J J J (Nat.le_of_ble_eq_true J) Xy J (QQ gorzero hZ J J J J (Qc J J J J (Qq J J J (Qq J J J (Qq J J J (QV J J J fO2 J (QJ J J J J J lFracs J (QQ gorSatisfies hS J J J J (Qc J J J J (Qq J J J (Qq J J J (Qq J J J (Qq J J J (QV J J J fO3 J (QJ J J J J J lFracs J (QQ gorgrows hG J J J J (Qc J J J J (Qv J J J (Qj (hK _ _ (Qz (Q2 (Qe (QW ?_)))))))))))))))))))))))))))))); clear hK K; refine Q1 [_] rfl (QZ J QX) J J
set_option maxHeartbeats 8000000 in
theorem rCheck_emp (hR : Ok Tryz.prog 50 [intC N, rowsC rs, fracsC du] (boolC true)) :
    Ok Tryz.prog 23 [intC N, rowsC rs, intsC c, ocC ⟨3, frz0, [], [], du⟩] (boolC true) := by
  obtain ⟨p1, p2⟩ := rCheck_pre N rs c hv hc; have hZ := rzero_frz; generalize frz0 = fz at *
  refine Ok.enter Tryz.func23 J _ Tryz.ntmps23 J ?_
  intro S w; refine Qy (Qx fun K hK => ?_); refine XZ 0 J J J J J J J (Qv J J J (Qj (hK _ _ (Qz (Qy (Qy ?_)))))); clear hK K; refine Qx (fun K hK => ?_); refine Qq J J J (Qq J J J (QQ gorLValid p1 J J J J (Xj J J J (Qq J J J (Qq J J J (Qq J J J (QQ gorValidGoal p2 J J J J (Xj J J J (Q6 J J J J (Qj (hK _ _ (Qz (XY J (QU (Qz (Qy (Qy ?_))))))))))))))))); clear hK K; refine Qx (fun K hK => ?_); refine QV J J J fO0 J (QJ J J J J J lInt J (Qj (hK _ _ (Qz (Q0 (Qy ?_)))))); clear hK K; refine Qx (fun K hK => ?_); refine Qw ieql J J J J (Qv J J J (Qj (hK _ _ (Qz (XY J (Qy ?_)))))); clear hK K; refine Qx (fun K hK => ?_); refine Qw ieql J J J J (Qv J J J (Qj (hK _ _ (Qz (XY J (Qy ?_)))))); clear hK K; refine Qx (fun K hK => ?_); refine Qw ieql J J J J (Qv J J J (Qj (hK _ _ (Qz (XU J (Qy ?_)))))); clear hK K; refine Qx (fun K hK => ?_)
  refine QV J J J fO2 J (QJ J J J J J lFracs J (Q7 J J sFracs.und (List.length_map ..) J (Qw ieql J J J J (Qq J J J (QV J J J fO3 J (QJ J J J J J lFracs J (Q7 J J sFracs.und (List.length_map ..) J (Qw ieql J J J J (Qc J J J J (Qq J J J (QV J J J fO1 J (Zc (n := 3) J J J J (Nat.le_of_ble_eq_true J) Xy J (QQ gorzero hZ J J J J (Qc J J J J (Qq J J J (Qq J J J (Qq J J J (QV J J J fO4 J (QJ J J J J J lFracs J (QQ gorRefutes hR J J J J (Qc J J J J (Qv J J J (Qj (hK _ _ (Qz (Q2 (Qe (QW ?_)))))))))))))))))))))))))))); clear hK K; refine Q1 [_] rfl (QZ J QX) J J
end
end Go.Proofs.YtdhmbgogmoaofaaGreat
namespace Go.Proofs.YtdhmbgogmoaofaaGreat
open Go.Own Go.Limbs Go.Det
theorem sol_kind {n : Nat} {rs : List Rw} {c : List Int} {O O' : Oc} (h : Sol n rs c O) (h' : Sol n rs c O') : O'.kind = O.kind := by
  cases h with
  | opt D X Y val hX hv hY =>
    cases h' with
    | opt => rfl
    | unb D' X' Z hX' hZ => exact (no_ray hZ hY).elim
    | emp D' Y' hY' => exact (no_refu hX hY').elim
  | unb D X Z hX hZ =>
    cases h' with
    | opt D' X' Y' val hX' hv hY => exact (no_ray hZ hY).elim
    | unb => rfl
    | emp D' Y' hY' => exact (no_refu hX hY').elim
  | emp D Y hY =>
    cases h' with
    | opt D' X' Y' val hX' => exact (no_refu hX' hY).elim
    | unb D' X' Z hX' => exact (no_refu hX' hY).elim
    | emp => rfl
theorem sm_absD {f : Nat → Int} {M : Nat} : ∀ {n : Nat}, (∀ k, k < n → (f k).natAbs ≤ M) → (sm f n).natAbs ≤ n * M
  | 0, _ => by simp [sm]
  | n + 1, h => by
    have h1 := sm_absD (n := n) fun k hk => h k (by omega)
    have h2 := h n (by omega)
    have h3 : (sm f (n + 1)).natAbs ≤ (sm f n).natAbs + (f n).natAbs := Int.natAbs_add_le _ _
    rw [Nat.succ_mul]
    omega
section
variable {N m : Nat} {D : Int} {X : Nat → Int} {c : List Int}
theorem vfitD (hcl : c.length ≤ 1000) (hc : ∀ i, -9223372036854775808 ≤ c.getD i 0 ∧ c.getD i 0 ≤ 9223372036854775807) (hN : N ≤ 16) (hm : m ≤ 6) (hD : 0 < D) (b1 : D.natAbs ≤ Kt m) (b2 : ∀ v, v < N → (X v).natAbs ≤ Kt m) :
    VFit c (ptl N X D) ∧ (limbs (ofQ (vsum c (ptl N X D))).num).length ≤ 57 ∧ (limbs (ofQ (vsum c (ptl N X D))).den).length ≤ 55 := by
  have hx : ∀ f ∈ ptl N X D, F9 f := ptl_F9 hm hD b1 b2; have hxl : (ptl N X D).length = N := ptl_len ..
  have hc' : ∀ i, (c.getD i 0).natAbs ≤ 9223372036854775808 := fun i => by have := hc i; omega
  have hx' : ∀ k, k < min c.length (ptl N X D).length → F9 ((ptl N X D).getD k fr0) := fun k hk => hx _ (X1 (by omega))
  have hp : ∀ k, k < min c.length (ptl N X D).length → (limbs (ofQ ((c.getD k 0 : Rat) * qv ((ptl N X D).getD k fr0))).num).length ≤ 12 ∧ (limbs (ofQ ((c.getD k 0 : Rat) * qv ((ptl N X D).getD k fr0))).den).length ≤ 9 := fun k hk => by
    have hf := hx' k hk; have hm := mk_le (c.getD k 0 * sg ((ptl N X D).getD k fr0).neg ((ptl N X D).getD k fr0).num) ((ptl N X D).getD k fr0).den hf.pos; rw [← prod_mk _ _ hf.pos] at hm
    have h1 : (c.getD k 0 * sg ((ptl N X D).getD k fr0).neg ((ptl N X D).getD k fr0).num).natAbs ≤ 9223372036854775808 * 1073741824 ^ 9 := by
      rw [Int.natAbs_mul, sg_abs]; exact Nat.mul_le_mul (hc' k) (Nat.le_of_lt hf.num)
    exact ⟨Qg (Nat.lt_of_le_of_lt (Nat.le_trans hm.1 h1) (by decide)), Qg (Nat.lt_of_le_of_lt hm.2 hf.den)⟩
  have hK := Kt9 hm
  have hs : ∀ k, k ≤ N → (limbs (ofQ (psum c (ptl N X D) k)).num).length ≤ 12 ∧ (limbs (ofQ (psum c (ptl N X D) k)).den).length ≤ 9 := fun k hk => by
    rw [psum_ptl c N X D k hk]
    have hab : (sm (fun j => c.getD j 0 * X j) k).natAbs ≤ k * (9223372036854775808 * 1073741824 ^ 9) := sm_absD fun j hj => by
      rw [Int.natAbs_mul]; exact Nat.mul_le_mul (hc' j) (by have := b2 j (by omega); omega)
    obtain ⟨l1, l2⟩ := mk_le (sm (fun j => c.getD j 0 * X j) k) D.natAbs (by omega); have h16 : k * (9223372036854775808 * 1073741824 ^ 9) ≤ 16 * (9223372036854775808 * 1073741824 ^ 9) := Nat.mul_le_mul_right _ (by omega); exact ⟨Qg (Nat.lt_of_le_of_lt (Nat.le_trans l1 (Nat.le_trans hab h16)) (by decide)), Qg (Nat.lt_of_le_of_lt l2 (by omega))⟩
  have hv := hs (min c.length (ptl N X D).length) (by omega); refine ⟨⟨hcl, by omega, hc, fun k hk => (hx' k hk).pos, fun k hk => ?_, fun k hk => ?_, fun k hk => ?_, fun k hk => ?_, fun k hk => ?_⟩, Nat.le_trans hv.1 (by decide), Nat.le_trans hv.2 (by decide)⟩
  · have h1 : (limbs (ofQ (c.getD k 0 : Rat)).num).length ≤ 3 := Qg (Nat.lt_of_le_of_lt (show (ofQ (c.getD k 0 : Rat)).num ≤ 9223372036854775808 from hc' k) (by decide)); have h2 := Qg (hx' k hk).num; omega
  · have h2 := Qg (hx' k hk).den; omega
  · have h1 := hp k hk; have h2 := hs k (by omega); omega
  · have h1 := hp k hk; have h2 := hs k (by omega); omega
  · have h1 := hp k hk; have h2 := hs k (by omega); omega
theorem sfitD {n : Int} {rs : List Rw} (hv : validR n rs = true) (hN : N ≤ 16) (hm : m ≤ 6) (hD : 0 < D) (b1 : D.natAbs ≤ Kt m) (b2 : ∀ v, v < N → (X v).natAbs ≤ Kt m) : SFit rs (ptl N X D) := by
  obtain ⟨v1, v2, v3, v4⟩ := Z3 hv
  have key : ∀ r ∈ rs, VFit r.cs (ptl N X D) ∧ (limbs (ofQ (vsum r.cs (ptl N X D))).num).length ≤ 57 ∧ (limbs (ofQ (vsum r.cs (ptl N X D))).den).length ≤ 55 := fun r hr => by
    obtain ⟨h1, h2, h3⟩ := v4 r hr; refine vfitD (by omega) (fun i => ?_) hN hm hD b1 b2; rcases Nat.lt_or_ge i r.cs.length with h4 | h4
    · have := h2 _ (X1 (z := 0) h4); omega
    · rw [getD_ge h4]; decide
  exact ⟨fun r hr => (key r hr).1, fun r hr => by have := (key r hr).2.1; omega, fun r hr => by have := (key r hr).2.2; omega⟩
end
def Imp (rs rs' : List Rw) : Prop := ∀ r' ∈ rs', ∃ r ∈ rs, r.cs = r'.cs ∧ r.b ≤ r'.b
theorem Imp.row {rs rs' : List Rw} (h : Imp rs rs') {i : Nat} (hi : i < rs'.length) : ∃ k, k < rs.length ∧ (∀ j, ca rs' i j = ca rs k j) ∧ cb rs k ≤ cb rs' i := by
  obtain ⟨r, hr, e, hb⟩ := h _ (X1 (z := rw0) hi); obtain ⟨k, hk, rfl⟩ := List.getElem_of_mem hr
  have : rs.getD k rw0 = rs[k] := by simp [List.getD_eq_getElem?_getD, List.getElem?_eq_getElem hk]
  refine ⟨k, hk, fun j => ?_, ?_⟩
  · unfold ca; rw [this, e]
  · unfold cb; rw [this]; exact hb
theorem Feas.imp {n : Nat} {rs rs' : List Rw} {D : Int} {X : Nat → Int} (h : Feas n rs D X) (hi : Imp rs rs') : Feas n rs' D X :=
  ⟨h.den, h.nn, fun i hl => by
    obtain ⟨k, hk, e, hb⟩ := hi.row hl
    have h1 := h.row k hk
    rw [Xt (g := fun j => ca rs k j * X j) fun j _ => by rw [e j]]
    exact Int.le_trans h1 (Int.mul_le_mul_of_nonneg_left hb (Int.le_of_lt h.den))⟩
def CovR (rs rs' : List Rw) : Prop := ∀ r' ∈ rs', ∃ r ∈ rs, r.cs = r'.cs
theorem CovR.row {rs rs' : List Rw} (h : CovR rs rs') {i : Nat} (hi : i < rs'.length) : ∃ k, k < rs.length ∧ ∀ j, ca rs' i j = ca rs k j := by
  obtain ⟨r, hr, e⟩ := h _ (X1 (z := rw0) hi); obtain ⟨k, hk, rfl⟩ := List.getElem_of_mem hr
  have : rs.getD k rw0 = rs[k] := by simp [List.getD_eq_getElem?_getD, List.getElem?_eq_getElem hk]
  exact ⟨k, hk, fun j => by unfold ca; rw [this, e]⟩
theorem Imp.cov {rs rs' : List Rw} (h : Imp rs rs') : CovR rs rs' := fun r hr => by
  obtain ⟨a, b, c, _⟩ := h r hr
  exact ⟨a, b, c⟩
theorem Ray.cov {n : Nat} {rs rs' : List Rw} {c : List Int} {D : Int} {Z : Nat → Int} (h : Ray n rs c D Z) (hi : CovR rs rs') : Ray n rs' c D Z :=
  ⟨h.den, h.nn, fun i hl => by
    obtain ⟨k, hk, e⟩ := hi.row hl
    rw [Xt (g := fun j => ca rs k j * Z j) fun j _ => by rw [e j]]
    exact h.row k hk, h.goal⟩
theorem sol_keep {n : Nat} {rs rs' : List Rw} {c : List Int} {O O' : Oc} (h : Sol n rs c O) (h' : Sol n rs' c O') (hi : Imp rs rs') (hc : CovR rs' rs) (k1 : O.kind = 1) : O'.kind = 1 := by
  cases h with
  | opt D X Y val hX hv hY hw b1 b2 b3 b4 =>
    cases h' with
    | opt => rfl
    | unb D' X' Z hX' hZ => exact (no_ray (hZ.cov hc) hY).elim
    | emp D' Y' hY' => exact (no_refu (hX.imp hi) hY').elim
  | unb => exact absurd (show (2 : Int) = 1 from k1) (by decide)
  | emp => exact absurd (show (3 : Int) = 1 from k1) (by decide)
theorem sol_mono {n : Nat} {rs rs' : List Rw} {c : List Int} {O O' : Oc} (h : Sol n rs c O) (h' : Sol n rs' c O') (hi : Imp rs rs') (k1 : O.kind = 1) (k2 : O'.kind = 1) :
    ∃ q q' : Rat, O.value = ofQ q ∧ O'.value = ofQ q' ∧ q ≤ q' := by
  cases h with
  | opt D X Y val hX hv hY hw b1 b2 b3 b4 =>
    cases h' with
    | opt D' X' Y' val' hX' hv' hY' hw' =>
      refine ⟨_, _, rfl, rfl, ?_⟩; have w := weak (hX.imp hi) hY'; rw [hw', hv] at w; have d1 := hX.den; have d2 := hX'.den; unfold shq
      refine mkR_le (by omega) (by omega) ?_
      rw [show ((D'.natAbs : Nat) : Int) = D' by omega, show ((D.natAbs : Nat) : Int) = D by omega, Int.mul_comm val, Int.mul_comm val']; exact w
    | unb => exact absurd (show (2 : Int) = 1 from k2) (by decide)
    | emp => exact absurd (show (3 : Int) = 1 from k2) (by decide)
  | unb => exact absurd (show (2 : Int) = 1 from k1) (by decide)
  | emp => exact absurd (show (3 : Int) = 1 from k1) (by decide)
theorem Imp.of_sub {rs rs' : List Rw} (h : ∀ r ∈ rs', r ∈ rs) : Imp rs rs' := fun r hr => ⟨r, h r hr, rfl, Int.le_refl _⟩
theorem sol_perm {n : Nat} {rs rs' : List Rw} {c : List Int} {O O' : Oc} (h : Sol n rs c O) (h' : Sol n rs' c O') (hp : ∀ r, r ∈ rs' ↔ r ∈ rs) :
    (O'.kind = 1 ↔ O.kind = 1) ∧ (O.kind = 1 → O'.value = O.value) := by
  have i1 : Imp rs rs' := Imp.of_sub fun r hr => (hp r).1 hr
  have i2 : Imp rs' rs := Imp.of_sub fun r hr => (hp r).2 hr
  have k1 := sol_keep h h' i1 i2.cov; refine ⟨⟨sol_keep h' h i2 i1.cov, k1⟩, fun hk => ?_⟩; obtain ⟨q, q', e1, e2, l1⟩ := sol_mono h h' i1 hk (k1 hk); obtain ⟨r', r, e3, e4, l2⟩ := sol_mono h' h i2 (k1 hk) hk
  have f1 : r = q := by have := congrArg qv (e4.symm.trans e1); rwa [Yw, Yw] at this
  have f2 : r' = q' := by have := congrArg qv (e3.symm.trans e2); rwa [Yw, Yw] at this
  subst f1 f2; rw [e1, e2, Rat.le_antisymm l1 l2]
end Go.Proofs.YtdhmbgogmoaofaaGreat
namespace Go.Proofs.YtdhmbgogmoaofaaGreat
open Go.Own Go.Limbs
attribute [local irreducible] St Ops Go.Own.Fin Ok
attribute [local irreducible] OkB OkN wpA
theorem goEqual : InGo Tryz.prog 19 := InGo.of Tryz.func19 rfl (by decide)
set_option maxHeartbeats 4000000 in
theorem Equal_refl (f : Fr) (hn : (limbs f.num).length ≤ 1000) (hd : (limbs f.den).length ≤ 1000) : Ok Tryz.prog 19 [fracC f, fracC f] (boolC true) := by
  refine Ok.enter Tryz.func19 J _ Tryz.ntmps19 J ?_
  intro S w; refine Qy (Qx fun K hK => ?_); refine XZ 0 J J J J J J J (XZ 1 J J J J J J J (Qv J J J (Qj (hK _ _ (Qz (Qy (Qy ?_))))))); clear hK K; refine Qx (fun K hK => ?_); refine QV J J J fF0 J (QJ J J J J J lBool J (QV J J J fF0 J (QJ J J J J J lBool J (Ys J J J uBool J (Qq J J J (Qp 12 J (fun h => absurd J h) (fun _ => ?_))))))); refine QV J J J fF1 J (QJ J J J J J lNat J (Q7 J J sNat.und (List.length_map ..) J (QV J J J fF1 J (QJ J J J J J lNat J (Q7 J J sNat.und (List.length_map ..) J (Qw ineq J J J J (Q6 J J J J (Qq J J J (Qp 21 J (fun h => absurd J h) (fun _ => ?_)))))))))); refine QV J J J fF2 J (QJ J J J J J lNat J (Q7 J J sNat.und (List.length_map ..) J (QV J J J fF2 J (QJ J J J J J lNat J (Q7 J J sNat.und (List.length_map ..) J (Qw ineq J J J J (Q6 J J J J (Qj (hK _ _ (Qz ?_)))))))))); clear hK K; refine QK J (fun h => absurd J h) (fun _ => ?_); refine QU (Qz (Qy (Qy (Qx fun K hK => ?_)))); refine Qv J J J (Qj (hK _ _ (Qz (Q0 ?_)))); clear hK K
  refine Xq (α := Nat) (fun k => k ≤ (limbs f.num).length)
    (fun k => [(2, .own 0), (3, .own 1), (5, .ct (intC k))]) (fun _ => [(1, .box 38 (frCs f)), (0, .box 38 (frCs f))]) (fun k => (limbs f.num).length - k) 0 (Nat.zero_le _) (by exact Qu J ⟨rfl, rfl, rfl, trivial⟩) ?_
  intro k hk; dsimp only at hk ⊢; refine Qy (Qy (Qx fun K hK => ?_)); refine Qq J J J (QV J J J fF1 J (QJ J J J J J lNat J (Q7 J J sNat.und (List.length_map ..) J (Qw ilss J J J J (Qj (hK _ _ (Qz ?_))))))); clear hK K; refine QK J (fun h => ?_) (fun h => ?_)
  · refine QU (Qz (Qy (Q0 (Qy ?_)))); refine Xv mixed 11 (.p 0 (.p 2 (.p 5 (.p 7 (.f 1 (.p 3 (.f 4 (.f 6 (.p 8 (.f 9 (.p 10 .done))))))))))) (by kernel_rfl) (fun K hK => ?_); refine QV J J J fF1 J (Qq J J J (QV J J J fF1 J (Qq J J J (QJ J J J J J lNat J (Qh J J J sNat (by omega) (X3 (by omega) (by omega)) J ?_))))); refine Xz J J J lInt J (QJ J J J J J lNat J (Qh J J J sNat (by omega) (X3 (by omega) (by omega)) J ?_)); refine Xz J J J lInt J (Qw ineq J J J J (Qj (hK _ _ (Qz ?_)))); clear hK K; refine QK J (fun h => absurd J h) (fun _ => ?_); refine QU (Qz (Qx fun K hK => ?_)); refine Qq J J J (Qw (iadd (by omega) (by omega)) J J J J ?_); refine Qv J J J (Qj (hK _ _ (Q4 ?_))); clear hK K; refine Qb (k + 1) (by omega) (by omega) (by exact Qu J ⟨rfl, rfl, by simp only [Int.natCast_add]; rfl, trivial⟩)
  · refine Qr (Qz (Qy (Qy (Qx fun K hK => ?_)))); refine Qv J J J (Qj (hK _ _ (Qz (Q0 ?_)))); clear hK K
    refine Xq (α := Nat) (fun k => k ≤ (limbs f.den).length)
      (fun k => [(2, .own 0), (3, .own 1), (6, .ct (intC k))]) (fun _ => [(1, .box 38 (frCs f)), (0, .box 38 (frCs f))]) (fun k => (limbs f.den).length - k) 0 (Nat.zero_le _) (by exact Qu J ⟨rfl, rfl, rfl, trivial⟩) ?_
    intro k hk; dsimp only at hk ⊢; refine Qy (Qy (Qx fun K hK => ?_)); refine Qq J J J (QV J J J fF2 J (QJ J J J J J lNat J (Q7 J J sNat.und (List.length_map ..) J (Qw ilss J J J J (Qj (hK _ _ (Qz ?_))))))); clear hK K; refine QK J (fun h => ?_) (fun h => ?_)
    · refine QU (Qz (Qy (Q0 (Qy ?_)))); refine Xv mixed 11 (.p 0 (.p 2 (.p 5 (.p 7 (.f 1 (.p 3 (.f 4 (.f 6 (.p 8 (.f 9 (.p 10 .done))))))))))) (by kernel_rfl) (fun K hK => ?_); refine QV J J J fF2 J (Qq J J J (QV J J J fF2 J (Qq J J J (QJ J J J J J lNat J (Qh J J J sNat (by omega) (X3 (by omega) (by omega)) J ?_))))); refine Xz J J J lInt J (QJ J J J J J lNat J (Qh J J J sNat (by omega) (X3 (by omega) (by omega)) J ?_)); refine Xz J J J lInt J (Qw ineq J J J J (Qj (hK _ _ (Qz ?_)))); clear hK K; refine QK J (fun h => absurd J h) (fun _ => ?_); refine QU (Qz (Qx fun K hK => ?_)); refine Qq J J J (Qw (iadd (by omega) (by omega)) J J J J ?_); refine Qv J J J (Qj (hK _ _ (Q4 ?_))); clear hK K; refine Qb (k + 1) (by omega) (by omega) (by exact Qu J ⟨rfl, rfl, by simp only [Int.natCast_add]; rfl, trivial⟩)
    · refine Qr (Qz (Qy (Qx fun K hK => ?_))); refine Qv J J J (Qj (hK _ _ (Qz (Q2 ?_)))); clear hK K; refine Q1 [_] rfl (QZ J QX) J J
end Go.Proofs.YtdhmbgogmoaofaaGreat
namespace Go.Proofs.YtdhmbgogmoaofaaGreat
open Go.Own
attribute [local irreducible] St Ops Go.Own.Fin Ok OkB OkN
theorem sBytes : SlcT Tryz.prog 22 5 1 1 (.int .u8 0) := SlcT.of Tryz.underlying22 (by kernel_rfl) rfl (by decide)
theorem lBytes : Ld1 Tryz.prog 22 := Ld1.of _ Tryz.underlying22 rfl
theorem lU8 : Ld1 Tryz.prog 5 := Ld1.of _ Tryz.underlying5 rfl
theorem uU8 : Tryz.prog.underlying 5 = some (.int .u8) := Tryz.underlying5
theorem uInt : Tryz.prog.underlying 3 = some (.int .i64) := Tryz.underlying3
theorem fC0 : fldInfo Tryz.prog 82 0 = some (0, some 1) := by kernel_rfl
theorem fC1 : fldInfo Tryz.prog 82 1 = some (1, some 1) := by kernel_rfl
theorem bCodes : bInfo Tryz.prog 82 = some (.agg #[.slice none 0 0, .int .i64 0], [(0, some 1), (1, some 1)]) := by kernel_rfl
abbrev bytesC (bs : List Int) : CT := .fr (sliceT 1 (bs.map fun b => [CT.ex (.int .u8 b)]))
abbrev codes (bs : List Int) (p : Nat) : List CT := [bytesC bs, intC p]
structure Bytes (bs : List Int) : Prop where
  lo : ∀ b ∈ bs, 0 ≤ b
  hi : ∀ b ∈ bs, b < 256
  len : bs.length ≤ 400
theorem bytes_at {bs : List Int} {j : Int} (h0 : 0 ≤ j) (h : j < (bs.length : Int)) : (bs.map fun b => [CT.ex (.int .u8 b)])[j.toNat]? = some [CT.ex (.int .u8 (bs.getD j.toNat 0))] := by
  have hl : j.toNat < bs.length := by omega
  rw [List.getElem?_map, List.getElem?_eq_getElem hl, List.getD_eq_getElem?_getD, List.getElem?_eq_getElem hl]; rfl
theorem Bytes.at {bs : List Int} (h : Bytes bs) (j : Nat) : 0 ≤ bs.getD j 0 ∧ bs.getD j 0 < 256 := by
  rw [List.getD_eq_getElem?_getD]
  cases e : bs[j]? with
  | none => simp
  | some b =>
    have := List.mem_of_getElem? e; exact ⟨h.lo b this, h.hi b this⟩
theorem goNext : InGo Tryz.prog 16 := InGo.of Tryz.func16 rfl (by decide)
set_option maxHeartbeats 2000000 in
theorem Next_ok (bs : List Int) (p : Nat) (n : Int) (h1 : 1 ≤ n) (h2 : n ≤ 256) (hb : Bytes bs) :
    OkB Tryz.prog 16 82 (codes bs p) [intC n] (fun q : Int × Nat => 0 ≤ q.1 ∧ q.1 < n) (fun q => intC q.1) (fun q => codes bs q.2) := by
  have hlen := hb.len
  refine OkB.enter Tryz.func16 J _ Tryz.ntmps16 J ?_
  intro S w g; refine Qy (Qx fun K hK => ?_); refine Qv J J J (Qj (hK _ _ (Qz (Qy (Qy ?_))))); clear hK K; refine Xv mixed 14 (.p 0 (.p 1 (.p 2 (.p 4 (.p 5 (.p 6 (.f 3 (.f 7 (.p 8 (.p 9 (.p 10 (.p 11 (.p 12 (.p 13 .done)))))))))))))) (by kernel_rfl) (fun K hK => ?_); refine Qq J J J (Q5 J J J J (QV J J J fC1 J (Qq J J J (Q5 J J J J (QV J J J fC0 J (QJ J J J J J lInt J (QJ J J J J J lBytes J (Q7 J J sBytes.und (List.length_map ..) J (Qw igeq J J J J (Qq J J J (Qp 16 J (fun h => ?_) (fun h => ?_))))))))))))
  · refine Qk J J J (Qk J J J (Qc J J J J (Qj (hK _ _ (Qz (XU J (Qy ?_))))))); clear hK K; refine Qx (fun K hK => ?_); refine Qv J J J (Qj (hK _ _ (Qz (Q2 (QW ?_))))); clear hK K; refine Fin.retB (0, p) [_] rfl (QZ J QX) J J ⟨by show (0 : Int) ≤ 0; omega, by show (0 : Int) < n; omega⟩
  · refine Qq J J J (Qw ilss J J J J (Q6 J J J J (Qj (hK _ _ (Qz ?_))))); clear hK K; refine QK J (fun h' => ?_) (fun h' => ?_)
    · exact absurd h' (by omega)
    · refine QU (Qz (Qy ?_)); refine Xv mixed 12 (.p 0 (.p 1 (.p 2 (.p 4 (.p 5 (.p 6 (.f 3 (.f 7 (.p 8 (.f 9 (.p 10 (.p 11 .done)))))))))))) (by kernel_rfl) (fun K hK => ?_); refine Qq J J J (Q5 J J J J (QV J J J fC0 J (Qq J J J (Q5 J J J J (QV J J J fC1 J (QJ J J J J J lBytes J (QJ J J J J J lInt J (Qh J J J sBytes (by omega) (bytes_at (by omega) (by omega)) J ?_))))))))
      refine Xz J J J lU8 J ?_
      have hx := hb.at p; generalize he : bs.getD p 0 = x at hx
      refine Yj (q := x) J J uU8 uInt (by rw [Int.toNat_natCast, he]; exact Yq (by omega) (by omega)) J ?_
      refine Qv J J J (Qj (hK _ _ (Qz (Qy ?_)))); clear hK K; refine Qx (fun K hK => ?_); refine Qq J J J (Q5 J J J J (QV J J J fC1 J (QJ J J J J J lInt J (Qw (iadd (by omega) (by omega)) J J J J ?_)))); refine Q5 J J J J (QV J J J fC1 J (Qn J J J J J zInt (by simp [Ent.cs]) ?_)); refine Qj (hK _ _ (Qz (Qy (Qy ?_)))); clear hK K; refine Qx (fun K hK => ?_); refine Qq J J J (Qw igtr J J J J (Qj (hK _ _ (Qz ?_)))); clear hK K; refine QK J (fun h' => ?_) (fun h' => ?_)
      · exact absurd h' (by omega)
      · refine QU (Qz (Qy (Qx fun K hK => ?_))); refine Qq J J J (Qq J J J (Qw (irem (by omega) (by omega)) J J J J ?_)); refine Qv J J J (Qj (hK _ _ (Qz (Q2 ?_)))); clear hK K; refine Fin.retB (x % n, p + 1) [_] rfl (QZ J QX) J J ⟨Int.emod_nonneg _ (by omega), Int.emod_lt_of_pos _ (by omega)⟩
theorem goNew : InGo Tryz.prog 56 := InGo.of Tryz.func56 rfl (by decide)
theorem New_ok (bs : List Int) : OkN Tryz.prog 56 [bytesC bs, intC 400] 82 (codes (bs.take 400) 0) := by
  refine OkN.enter Tryz.func56 J _ Tryz.ntmps56 J ?_
  intro S w; refine Qy (Qx fun K hK => ?_); refine Qv J J J (Qj (hK _ _ (Qz (Qy (Qy ?_))))); clear hK K; refine Qx (fun K hK => ?_); refine Qq J J J (Q7 J J sBytes.und (List.length_map ..) J (Qq J J J (Qw igtr J J J J (Qj (hK _ _ (Qz ?_)))))); clear hK K; refine QK J (fun h' => ?_) (fun h' => ?_)
  · refine Qx (fun K hK => ?_); refine Qq J J J (Qq J J J (Ops.cutHi J J J sBytes (by omega) (by rw [List.length_map]; omega) J ?_)); rw [← List.map_take]; refine Qv J J J (Qj (hK _ _ (Qz (Qy ?_)))); clear hK K; refine Qx (fun K hK => ?_); refine Qq J J J (Xk J bCodes J (.one J J J J .nil) J (XZ 0 J J J J J J J (Qv J J J (Qj (hK _ _ (Qz (Q2 ?_))))))); clear hK K; refine Fin.retN J J J J
  · refine QU (Qz (Qy (Qx fun K hK => ?_))); refine Qq J J J (Xk J bCodes J (.one J J J J .nil) J (XZ 0 J J J J J J J (Qv J J J (Qj (hK _ _ (Qz (Q2 ?_))))))); clear hK K; refine Fin.retN J J (by rw [List.take_of_length_le (by omega)]; rfl) J
theorem goRoll : InGo Tryz.prog 13 := InGo.of Tryz.func13 rfl (by decide)
theorem Roll_ok (bs : List Int) : OkN Tryz.prog 13 [bytesC bs] 82 (codes (bs.take 400) 0) := by
  refine OkN.enter Tryz.func13 J _ Tryz.ntmps13 J ?_
  intro S w; refine Qy (Qx fun K hK => ?_); refine Qv J J J (Qj (hK _ _ (Qz (Qy ?_)))); clear hK K; refine Qx (fun K hK => ?_); refine Qq J J J (Ops.callN 0 goNew (New_ok bs) J J J J J J (Qv J J J (Qj (hK _ _ (Qz (Q2 ?_)))))); clear hK K; refine Fin.retN J J J J
theorem goPick : InGo Tryz.prog 27 := InGo.of Tryz.func27 rfl (by decide)
theorem Pick_ok (bs : List Int) (p : Nat) (xs : List Int) (h1 : 1 ≤ xs.length) (h2 : xs.length ≤ 256) (hb : Bytes bs) :
    OkB Tryz.prog 27 82 (codes bs p) [intsC xs] (fun q : Int × Nat => q.1 ∈ xs) (fun q => intC q.1) (fun q => codes bs q.2) := by
  refine OkB.enter Tryz.func27 J _ Tryz.ntmps27 J ?_
  intro S w g; refine Qy (Qx fun K hK => ?_); refine Qv J J J (Qj (hK _ _ (Qz (Qy ?_)))); clear hK K; refine Qx (fun K hK => ?_); refine Qq J J J (Qq J J J (Qq J J J (Q7 J J sInts.und (List.length_map ..) J (ZJ goNext (Next_ok bs p xs.length (by omega) (by omega) hb) J J J J J (fun q hq => ?_))))); obtain ⟨x, p'⟩ := q; dsimp only at hq
  refine Qh J J J sInts (by omega) (X3 (by omega) (by omega)) J ?_
  refine Xz J J J lInt J (Qv J J J (Qj (hK _ _ (Qz (Q2 ?_))))); clear hK K
  refine Fin.retB (xs.getD x.toNat 0, p') [_] rfl (QZ J QX) J J ?_
  show xs.getD x.toNat 0 ∈ xs
  have hl : x.toNat < xs.length := by omega
  rw [List.getD_eq_getElem?_getD, List.getElem?_eq_getElem hl]; exact List.getElem_mem hl
theorem goBool : InGo Tryz.prog 24 := InGo.of Tryz.func24 rfl (by decide)
theorem Bool_ok (bs : List Int) (p : Nat) (n : Int) (h1 : 1 ≤ n) (h2 : n ≤ 256) (hb : Bytes bs) :
    OkB Tryz.prog 24 82 (codes bs p) [intC n] (fun _ : Bool × Nat => True) (fun q => boolC q.1) (fun q => codes bs q.2) := by
  refine OkB.enter Tryz.func24 J _ Tryz.ntmps24 J ?_
  intro S w g; refine Qy (Qx fun K hK => ?_); refine Qv J J J (Qj (hK _ _ (Qz (Qy ?_)))); clear hK K; refine Qx (fun K hK => ?_); refine Qq J J J (Qq J J J (ZJ goNext (Next_ok bs p n h1 h2 hb) J J J J J (fun q hq => ?_))); obtain ⟨x, p'⟩ := q; dsimp only at hq; refine Qq J J J (Qw (isub (by omega) (by omega)) J J J J ?_); refine Qw ieql J J J J (Qv J J J (Qj (hK _ _ (Qz (Q2 ?_))))); clear hK K; refine Fin.retB (decide (x = n - 1), p') [_] rfl (QZ J QX) J J trivial
end Go.Proofs.YtdhmbgogmoaofaaGreat
namespace Go.Proofs.YtdhmbgogmoaofaaGreat
open Go.Own Go.Limbs
attribute [local irreducible] St Ops Go.Own.Fin Ok OkB OkN wpA
theorem zIntsD : (Tryz.prog.info? 24).map (·.size) = some 1 := by kernel_rfl
theorem bRow : bInfo Tryz.prog 57 = some (.agg #[.slice none 0 0, .int .i64 0], [(0, some 1), (1, some 1)]) := by kernel_rfl
def rws (rs : List Rw) : List CT := (rs.map rwCs).flatten
theorem rws_len (rs : List Rw) : (rws rs).length = rs.length * 2 := by
  unfold rws; rw [Xm (k := 2) (fun e he => by obtain ⟨m, _, rfl⟩ := List.mem_map.mp he; rfl)]; simp
theorem rws_snoc (rs : List Rw) (r : Rw) : rws (rs ++ [r]) = rws rs ++ rwCs r := by simp [rws]
theorem rws_frozen (e : Nat) (rs : List Rw) : (Ent.row e 2 (rws rs)).frozen (sliceT 2 (rs.map rwCs)) :=
  ⟨_, rfl, fun e he => by obtain ⟨m, _, rfl⟩ := List.mem_map.mp he; rfl, by decide, rfl⟩
structure RowIn (n : Int) (r : Rw) : Prop where
  len : (r.cs.length : Int) ≤ n
  lo : ∀ c ∈ r.cs, -3 ≤ c ∧ c ≤ 5
  b1 : -4503599627370496 ≤ r.b
  b2 : r.b ≤ 4503599627370496
structure Lp where
  n : Int
  rs : List Rw
  c : List Int
  p : Nat
structure LpIn (q : Lp) : Prop where
  n0 : 0 ≤ q.n
  n1 : q.n ≤ 4
  rl : q.rs.length ≤ 6
  rs : ∀ r ∈ q.rs, RowIn q.n r
  cl : (q.c.length : Int) ≤ q.n
  c : ∀ c ∈ q.c, -2 ≤ c ∧ c ≤ 4
theorem mem_snoc {α : Type} {P : α → Prop} {xs : List α} {x : α} (h : ∀ y ∈ xs, P y) (hx : P x) : ∀ y ∈ xs ++ [x], P y := fun y hy => by
  rcases List.mem_append.1 hy with h1 | h1
  · exact h y h1
  · rcases List.mem_singleton.1 h1 with rfl; exact hx
theorem goProgram : InGo Tryz.prog 14 := InGo.of Tryz.func14 rfl (by decide)
attribute [local irreducible] OkM
theorem gowhole34 : InGo Tryz.prog 37 := InGo.of Tryz.func37 rfl (by decide)
set_option maxHeartbeats 2000000 in
theorem whole34_ok (n : Int) (h1 : -9223372036854775808 ≤ n) (h2 : n ≤ 9223372036854775807) : Ok Tryz.prog 37 [intC n] (ratC (n : Rat)) := by
  have hF := rFrom_ok n 1 h1 h2 (by decide) (by decide) (by decide); rw [divInt_one] at hF
  refine Ok.enter Tryz.func37 J _ Tryz.ntmps37 J ?_
  intro S w; refine Qy (Qx fun K hK => ?_); refine Qf 0 J J zvFrac J J J (Qj (hK _ _ (Qz (Qy ?_)))); clear hK K; refine Qx (fun K hK => ?_); refine Qq J J J (QQ gorFrom hF J J J J (Qq J J J (QY J J J J (QY J J J J (Qf 1 J J zvFrac J J J (Qa 3 J J J J J szFrac J J (Qv J J J (Qj (hK _ _ (Qz (Qy ?_))))))))))); clear hK K; refine Qx (fun K hK => ?_); refine Qt (n := 3) J J J J J Xy J (Qa 3 J J J J J szFrac J J (Qj (hK _ _ (Qz (Q2 ?_))))); clear hK K; refine Q1 [_] rfl (Qd (n := 3) J J Xy J QX) J J
def aw1 : List Rw := [⟨[1, 1], 4⟩, ⟨[1], 3⟩]
def aw2 : List Rw := [⟨[-1], -5⟩, ⟨[1], 3⟩]
def awX : List Fr := [ofQ (3 : Int), ofQ (1 : Int)]
theorem aw_lp1 : LpOk 2 aw1 [2, 1] := by
  obtain ⟨N, h, hL⟩ := lp_of (n := 2) (rs := aw1) (c := [2, 1]) (by decide) (by decide)
  rwa [show N = 2 by omega] at hL
theorem aw_lp2 : LpOk 1 aw2 [] := by
  obtain ⟨N, h, hL⟩ := lp_of (n := 1) (rs := aw2) (c := []) (by decide) (by decide)
  rwa [show N = 1 by omega] at hL
theorem aw_F1 : Go.Proofs.YtdhmbgogmoaofaaGreat.Feas 2 aw1 1 (fun j => if j = 0 then 3 else 1) := ⟨by decide, by decide, by decide⟩
theorem aw_D1 : Go.Proofs.YtdhmbgogmoaofaaGreat.Dual 2 aw1 [2, 1] 1 (fun _ => 1) := ⟨by decide, by decide, by decide⟩
theorem aw_R2 : Go.Proofs.YtdhmbgogmoaofaaGreat.Refu 1 aw2 1 (fun _ => 1) := ⟨by decide, by decide, by decide, by decide⟩
theorem aw_Max : Ok Tryz.prog 26 [intC 2, rowsC aw1, intsC [2, 1]] (.fr (tupT [fracC (ofQ (7 : Int)), boolC true, intC 0])) := by
  obtain ⟨T, E, F, s, R, hs⟩ := lp_sol aw_lp1; have h := Maximum_of 2 aw1 [2, 1] _ 0 (Solve_ok 2 aw1 [2, 1] aw_lp1 (by decide) (by decide) R); obtain ⟨h1, h2⟩ := sol_opt hs aw_F1 aw_D1 (v := 7) (by decide) (by decide); rw [h2, h1] at h; exact h
theorem aw_Fea : Ok Tryz.prog 34 [intC 1, rowsC aw2] (.fr (tupT [boolC false, intC 0])) := by
  obtain ⟨T, E, F, s, R, hs⟩ := lp_sol aw_lp2; have h := Feasible_of 1 aw2 _ 0 (Solve_ok 1 aw2 [] aw_lp2 (by decide) (by decide) R); have h1 := sol_emp hs aw_R2; rw [h1] at h; exact h
theorem aw_f6 : ∀ f ∈ awX, F6 f := by
  intro f hf; rcases List.mem_cons.1 hf with h | h
  · subst h; exact ⟨by decide +kernel, by decide +kernel, by decide +kernel, by decide +kernel⟩
  · rw [List.mem_singleton.1 h]; exact ⟨by decide +kernel, by decide +kernel, by decide +kernel, by decide +kernel⟩
theorem aw_Sat : Ok Tryz.prog 20 [intC 2, rowsC aw1, fracsC awX] (boolC true) := by
  have h := Satisfies_gen 2 aw1 awX (by decide) (by decide) (by decide) (fun f hf => (aw_f6 f hf).vf) (fun _ _ => sfit6 2 aw1 awX (by decide) (by decide) aw_f6)
  rwa [show satB 2 aw1 awX = true by decide +kernel] at h
theorem goawake34 : InGo Tryz.prog 11 := InGo.of Tryz.func11 rfl (by decide)
set_option maxHeartbeats 4000000 in
theorem awake34_ok : Ok Tryz.prog 11 [] (boolC true) := by
  have hM := aw_Max; have hF := aw_Fea; have hS := aw_Sat; have hV := LValid_ok 2 aw1 (by decide) (by decide); rw [show validR 2 aw1 = true by decide] at hV; have hE := Equal_refl (ofQ (7 : Int)) (by decide +kernel) (by decide +kernel); have w1 := whole34_ok 1 (by decide) (by decide); have w3 := whole34_ok 3 (by decide) (by decide); have w7 : Ok Tryz.prog 37 [intC 7] (fracC (ofQ (7 : Int))) := whole34_ok 7 (by decide) (by decide); generalize h7 : ofQ (7 : Int) = q7 at hM hE w7
  refine Ok.enter Tryz.func11 J _ Tryz.ntmps11 J ?_
  intro S w; refine Qy (Qx fun K hK => ?_); refine Qv J J J (Qj (hK _ _ (Qz (Qy ?_)))); clear hK K; refine Qx (fun K hK => ?_)
  refine YJ (m := 2) (cs := [intC 1, intC 1]) J J sInts (.one J J J J (.one J J J J .nil)) (by decide) J ?_
  refine Xk J bRow J (.one J J J J (.one J J J J .nil)) J (XQ J J sInts J J J (Xk J bRow J (.one J J J J (.one J J J J .nil)) J (YJ (m := 2) (n := 2) (cs := rwCs ⟨[1, 1], 4⟩ ++ rwCs ⟨[1], 3⟩) J J sRows (.agg J J J J (.agg J J J J .nil)) (by decide) J ?_))); refine Qv J J J (Qj (hK _ _ ?_)); clear hK K; refine Fin.keep [(1, .ct (rowsC aw1))] ⟨rfl, trivial⟩ (Qz (Qy (Qx fun K hK => ?_))); refine Qq J J J (YJ (m := 2) (cs := [intC 2, intC 1]) J J sInts (.one J J J J (.one J J J J .nil)) (by decide) J ?_); refine QQ goMaximum hM J J J J (Qq J J J (QY J J J J (QY J J J J (QY J J J J (Qf 0 J J zvFrac J J J (Qa 3 J J J J J szFrac J J (Qv J J J (Qv J J J (Qj (hK _ _ (Qz (Qy ?_)))))))))))); clear hK K; refine Qx (fun K hK => ?_); refine XQ J J sInts J J J (Xk J bRow J (.one J J J J (.one J J J J .nil)) J (XQ J J sInts J J J (Xk J bRow J (.one J J J J (.one J J J J .nil)) J (YJ (m := 2) (n := 2) (cs := rwCs ⟨[-1], -5⟩ ++ rwCs ⟨[1], 3⟩) J J sRows (.agg J J J J (.agg J J J J .nil)) (by decide) J ?_)))); refine QQ goFeasible hF J J J J (Qq J J J (QY J J J J (QY J J J J (Qv J J J (Qv J J J (Qj (hK _ _ (Qz (Qy ?_))))))))); clear hK K
  refine Xv mixed 30 (.p 0 (.p 1 (.p 2 (.p 3 (.p 4 (.p 5 (.f 6 (.m 7 (.m 8 (.p 9 (.p 10 (.p 11 (.p 12 (.p 13 (.p 14 (.p 15 (.p 16 (.p 17 (.p 18 (.p 19 (.m 20 (.m 21 (.m 22 (.m 23 (.p 24 (.p 25 (.p 26 (.m 27 (.p 28 (.p 29 .done)))))))))))))))))))))))))))))) (by kernel_rfl) (fun K hK => ?_); refine Qq J J J (Qq J J J (Qq J J J (Qw ieql J J J J (Qc J J J J (Qq J J J (Qt (n := 3) J J J J J Xy J (QQ gowhole34 w7 J J J J ?_))))))); skip; refine QQ goEqual hE J J J J (Qc J J J J (Qq J J J (Qq J J J (Xj J J J (Qc J J J J (Qq J J J (Qq J J J (Qw ieql J J J J (Qc J J J J (Qq J J J (Qq J J J (QQ gowhole34 w3 J J J J (QQ gowhole34 w1 J J J J (YJ (m := 2) (n := 3) (cs := frCs (ofQ (3 : Int)) ++ frCs (ofQ (1 : Int))) J J sFracs (.agg J J J J (.agg J J J J .nil)) (by decide) J ?_)))))))))))))); refine QQ goSatisfies hS J J J J (Qc J J J J (Qq J J J (Qq J J J (QQ goLValid hV J J J J (Qc J J J J (Qv J J J (Qj (hK _ _ (Qz (Q2 ?_)))))))))); clear hK K; refine Q1 [_] rfl (QZ J QX) J J
theorem solve_ex {n : Int} {rs : List Rw} {c : List Int} (hv : validR n rs = true) (hc : okCoeffs n c = true) : ∃ O, Sol n.toNat rs c O ∧ Ok Tryz.prog 22 [intC n, rowsC rs, intsC c] (.fr (tupT [ocC O, intC 0])) := by
  obtain ⟨N, rfl, hL⟩ := lp_of hv hc; obtain ⟨T, E, F, s, R, hs⟩ := lp_sol hL; rw [Int.toNat_natCast]; exact ⟨_, hs, Solve_ok N rs c hL hv hc R⟩
theorem Kt6 {m : Nat} (h : m ≤ 6) : Kt m < 1073741824 ^ 9 := by
  have : m = 0 ∨ m = 1 ∨ m = 2 ∨ m = 3 ∨ m = 4 ∨ m = 5 ∨ m = 6 := by omega
  rcases this with rfl | rfl | rfl | rfl | rfl | rfl | rfl <;> decide +kernel
theorem sol_sz {n : Nat} {rs : List Rw} {c : List Int} {O : Oc} (h : Sol n rs c O) (hl : rs.length ≤ 6) (hk : O.kind = 1) : ∃ q : Rat, O.value = ofQ q ∧ (limbs (ofQ q).num).length ≤ 9 ∧ (limbs (ofQ q).den).length ≤ 9 := by
  cases h with
  | opt D X Y val hX hv hY hw b1 b2 b3 b4 =>
    have hD := hX.den; obtain ⟨h1, h2⟩ := mk_le val D.natAbs (by omega); have := Kt6 hl; exact ⟨shq val D, rfl, Qg (by unfold shq; omega), Qg (by unfold shq; omega)⟩
  | unb => exact absurd (show (2 : Int) = 1 from hk) (by decide)
  | emp => exact absurd (show (3 : Int) = 1 from hk) (by decide)
end Go.Proofs.YtdhmbgogmoaofaaGreat
namespace Go.Proofs.YtdhmbgogmoaofaaGreat
open Go.Own Go.Limbs
attribute [local irreducible] St Ops Go.Own.Fin Ok
theorem rCheck_sol16 {N : Nat} {rs : List Rw} {c : List Int} {O : Oc} (hv : validR N rs = true) (hc : okCoeffs N c = true) (hn : N ≤ 16) (hl : rs.length ≤ 6) (h : Sol N rs c O) :
    Ok Tryz.prog 23 [intC N, rowsC rs, intsC c, ocC O] (boolC true) := by
  obtain ⟨v1, v2, v3, v4⟩ := Z3 hv
  have hcc : c.length ≤ N ∧ ∀ y ∈ c, y.natAbs ≤ 1048576 := by
    have hc := hc; unfold okCoeffs at hc; simp only [Bool.and_eq_true, decide_eq_true_eq, Bool.not_eq_true'] at hc; refine ⟨by omega, fun y hy => ?_⟩; have := List.any_eq_false.1 hc.2 y hy; unfold badC at this; simp only [Bool.or_eq_true, decide_eq_true_eq] at this; omega
  obtain ⟨cl, cb'⟩ := hcc
  have cbb : ∀ i, -9223372036854775808 ≤ c.getD i 0 ∧ c.getD i 0 ≤ 9223372036854775807 := fun i => by
    rcases Nat.lt_or_ge i c.length with h4 | h4
    · have := cb' _ (X1 (z := (0 : Int)) h4); omega
    · rw [getD_ge h4]; decide
  have sat : ∀ {D : Int} {X : Nat → Int}, Feas N rs D X → D.natAbs ≤ Kt rs.length → (∀ v, v < N → (X v).natAbs ≤ Kt rs.length) → Ok Tryz.prog 21 [intC N, rowsC rs, fracsC (ptl N X D)] (boolC true) := fun {D X} hX b1 b2 => by
    have hF := ptl_F9 hl hX.den b1 b2; have := rSatisfies_gen N rs (ptl N X D) (by omega) (fun r hr => by have := (v4 r hr).1; omega) (by rw [ptl_len]; omega) (fun f hf => (hF f hf).vf) (fun _ _ => sfitD hv hn hl hX.den b1 b2); rw [sat_ptl hv hX] at this; exact this
  cases h with
  | opt D X Y val hX hv' hY hw b1 b2 b3 b4 =>
    have hF := ptl_F9 hl hX.den b1 b2; have hM := mul_ptl hv hl hY.den hY.nn b1 b3; have f1 := vfitD (by omega) cbb hn hl hX.den b1 b2; have e1 := vsum_ptl c N X D cl; rw [hv'] at e1; rw [e1] at f1; have hV := rValue_gen c (ptl N X D) f1.1; rw [e1] at hV; have hs : SzQ (shq val D) := (F9.shq hl hX.den b1 b4).vf.szq; have hB := rBounds_gen N rs c _ (shq val D) hv hM (by omega) (fun y hy => by have := cb' y hy; omega) hs; rw [cov_ptl c hY.den cl hY.col, bsQ_ptl, hw, cmpQ_self] at hB; exact rCheck_opt N rs c _ _ hv hc _ (sat hX b1 b2) hV hs hB
  | unb D X Z hX hZ b1 b2 b3 =>
    have hF := ptl_F9 hl hZ.den b1 b3; have f1 := vfitD (by omega) cbb hn hl hZ.den b1 b3; have hS := sfitD hv hn hl hZ.den b1 b3; have hG := rgrows_gen N rs c (ptl N Z D) (ptl_len ..) (by omega) (by omega) (fun f hf => (hF f hf).vf) (ptl_nn hZ.den hZ.nn) hS.v f1.1
    have e : growB rs c (ptl N Z D) = true := by
      unfold growB; rw [List.all_eq_true.2 fun r hr => ?_, vsum_ptl c N Z D cl, decide_eq_true ((Ju hZ.den).2.2 hZ.goal)]
      · rfl
      · obtain ⟨i, hi, rfl⟩ := List.getElem_of_mem hr
        have e : rs.getD i rw0 = rs[i] := by simp [List.getD_eq_getElem?_getD, List.getElem?_eq_getElem hi]
        have h1 := hZ.row i hi; unfold ca at h1; rw [e] at h1; rw [vsum_ptl _ _ _ _ (by have := (v4 _ hr).1; omega), Bool.not_eq_true', decide_eq_false_iff_not]; intro h2; rcases Int.lt_or_eq_of_le h1 with h4 | h4
        · have := (Ju hZ.den).2.1 h4; omega
        · rw [h4, Y8] at h2; exact absurd h2 (by decide)
    rw [e] at hG; exact rCheck_unb N rs c _ _ hv hc (sat hX b1 b2) hG
  | emp D Y hY b1 b3 =>
    have hM := mul_ptl hv hl hY.den hY.nn b1 b3; have hR := rRefutes_gen N rs _ hv hM; rw [cov_ptl [] hY.den (Nat.zero_le _) (fun j hj => by rw [show ([] : List Int).getD j 0 = 0 by simp, Int.mul_zero]; exact hY.col j hj), bsQ_ptl, decide_eq_true ((Ju hY.den).2.1 hY.neg)] at hR; exact rCheck_emp N rs c _ hv hc hR
structure Duo (m : Int) (p : List Rw) (q : List Int) (O1 O2 : Oc) (e : Int) : Prop where
  s1 : Ok Tryz.prog 22 [intC m, rowsC p, intsC q] (.fr (tupT [ocC O1, intC e]))
  s2 : Ok Tryz.prog 28 [intC m, rowsC p, intsC q] (.fr (tupT [ocC O2, intC e]))
  kind : O2.kind = O1.kind
  val : O2.value = O1.value
  v0 : O1.kind ≠ 1 → O1.value = frz0
  v1 : O1.kind = 1 → ∃ r : Rat, O1.value = ofQ r ∧ (limbs (ofQ r).num).length ≤ 9 ∧ (limbs (ofQ r).den).length ≤ 9
  chk : e = 0 → Ok Tryz.prog 23 [intC m, rowsC p, intsC q, ocC O1] (boolC true)
  ok : (validR m p && okCoeffs m q) = true → e = 0
  no : (validR m p && okCoeffs m q) = false → e = 1 ∧ O1 = oc0
  k1 : O1.kind = 1 → e = 0
theorem sol_v0' {n : Nat} {rs : List Rw} {c : List Int} {O : Oc} (h : Sol n rs c O) (hk : O.kind ≠ 1) : O.value = frz0 := by
  cases h with
  | opt => exact absurd J hk
  | unb => rfl
  | emp => rfl
theorem duo (m : Int) (p : List Rw) (q : List Int) (hl : p.length ≤ 6) (hr : ∀ r ∈ p, r.cs.length < 4611686018427387904) (hq : q.length < 4611686018427387904) : ∃ O1 O2 e, Duo m p q O1 O2 e := by
  cases hb : (validR m p && okCoeffs m q) with
  | false => exact ⟨oc0, oc0, 1, Solve_bad m p q (by omega) hr hq hb, rSolve_bad m p q (by omega) hr hq hb, rfl, rfl, fun _ => rfl, fun h => absurd h (by decide), fun h => absurd h (by decide), fun h => (by rw [hb] at h; cases h), fun _ => ⟨rfl, rfl⟩, fun h => absurd h (by decide)⟩
  | true =>
    have hb2 := hb; rw [Bool.and_eq_true] at hb2; obtain ⟨hv, hc⟩ := hb2; obtain ⟨O1, s1, T1⟩ := solve_ex hv hc; obtain ⟨N, rfl, hL⟩ := lp_of hv hc; rw [Int.toNat_natCast] at s1; obtain ⟨O2, R2, s2⟩ := ref_run hL hl; have T2 := rSolve_ok N p q O2 hL hl hv hc R2; have hk := sol_kind s1 s2; refine ⟨O1, O2, 0, T1, T2, hk, ?_, sol_v0' s1, sol_sz s1 hl, fun _ => rCheck_sol16 hv hc hL.nn hl s1, fun _ => rfl, fun h => (by rw [hb] at h; cases h), fun _ => rfl⟩; by_cases k1 : O1.kind = 1
    · exact (sol_perm s1 s2 fun _ => Iff.rfl).2 k1
    · rw [sol_v0' s1 k1, sol_v0' s2 (fun h => k1 (hk.symm.trans h))]
theorem Duo.eq {m : Int} {p : List Rw} {q : List Int} {O1 O2 : Oc} {e : Int} (h : Duo m p q O1 O2 e) : Ok Tryz.prog 19 [fracC O1.value, fracC O1.value] (boolC true) := by
  by_cases k1 : O1.kind = 1
  · obtain ⟨r, f, a1, a2⟩ := h.v1 k1; exact Equal_refl _ (by rw [f]; omega) (by rw [f]; omega)
  · rw [h.v0 k1]; exact Equal_refl frz0 (by decide +kernel) (by decide +kernel)
theorem Duo.max {m : Int} {p : List Rw} {q : List Int} {O1 O2 : Oc} {e : Int} (h : Duo m p q O1 O2 e) :
    Ok Tryz.prog 26 [intC m, rowsC p, intsC q] (.fr (tupT [fracC O1.value, boolC (decide (O1.kind = 1)), intC e])) ∧ Ok Tryz.prog 31 [intC m, rowsC p, intsC q] (.fr (tupT [fracC O1.value, boolC (decide (O1.kind = 1)), intC e])) := by
  have h2 := rMaximum_of m p q O2 e (fun k => by rw [h.val]; exact h.v0 (by rw [← h.kind]; exact k)) (fun k => h.k1 (by rw [← h.kind]; exact k)) h.s2; rw [h.val, h.kind] at h2; exact ⟨Maximum_of m p q O1 e h.s1, h2⟩
theorem okc_neg {m : Int} {q : List Int} (hq : ∀ y ∈ q, -9223372036854775808 ≤ y ∧ y ≤ 9223372036854775807) : okCoeffs m (q.map wneg) = okCoeffs m q := by
  unfold okCoeffs; rw [List.length_map, List.any_map]
  congr 2
  have key : ∀ y, -9223372036854775808 ≤ y → y ≤ 9223372036854775807 → badC (wneg y) = badC y := fun y h1 h2 => by
    by_cases h3 : y = -9223372036854775808
    · subst h3; decide
    · rw [wneg_id (by omega) h2]; unfold badC; rw [Bool.or_comm]
      congr 1
      · exact decide_eq_decide.2 (by omega)
      · exact decide_eq_decide.2 (by omega)
  clear m
  induction q with
  | nil => rfl
  | cons y q ih =>
    simp only [List.any_cons, Function.comp]; rw [key y (hq y (List.mem_cons_self ..)).1 (hq y (List.mem_cons_self ..)).2, ← ih fun z hz => hq z (List.mem_cons_of_mem _ hz)]
theorem mins (m : Int) (p : List Rw) (q : List Int) (hl : p.length ≤ 6) (hr : ∀ r ∈ p, r.cs.length < 4611686018427387904) (hcl : q.length ≤ 1000) (hq : ∀ y ∈ q, -9223372036854775808 ≤ y ∧ y ≤ 9223372036854775807) :
    ∃ (f : Fr) (b : Bool) (e : Int), Ok Tryz.prog 32 [intC m, rowsC p, intsC q] (.fr (tupT [fracC f, boolC b, intC e])) ∧ Ok Tryz.prog 33 [intC m, rowsC p, intsC q] (.fr (tupT [fracC f, boolC b, intC e])) ∧ Ok Tryz.prog 19 [fracC f, fracC f] (boolC true) := by
  obtain ⟨O1, O2, e, D⟩ := duo m p (q.map wneg) hl hr (by rw [List.length_map]; omega); have hok := okc_neg (m := m) hq; have hM := Minimum_of m p q O1 e hcl D.s1
  have hE : Ok Tryz.prog 19 [fracC (vneg O1.value), fracC (vneg O1.value)] (boolC true) := by
    by_cases k1 : O1.kind = 1
    · obtain ⟨r, f, a1, a2⟩ := D.v1 k1
      have e1 : (ofQ (-r)).num = (ofQ r).num := by
        show (-r).num.natAbs = _; rw [Rat.neg_num, Int.natAbs_neg]; rfl
      have e2 : (ofQ (-r)).den = (ofQ r).den := by
        show (-r).den = _; rw [Rat.neg_den]; rfl
      rw [f, vneg_q]; exact Equal_refl _ (by rw [e1]; omega) (by rw [e2]; omega)
    · rw [D.v0 k1]; exact Equal_refl frz0 (by decide +kernel) (by decide +kernel)
  cases hb : (validR m p && okCoeffs m q) with
  | false =>
    obtain ⟨rfl, rfl⟩ := D.no (by rw [hok]; exact hb); exact ⟨_, _, _, hM, rMinimum_bad m p q (by omega) hr (by omega) hb, hE⟩
  | true =>
    obtain rfl := D.ok (by rw [hok]; exact hb); rw [Bool.and_eq_true] at hb
    have h2 := rMinimum_of m p q O2 hcl (by omega) hr hb.1 hb.2 (fun k => by rw [D.val]; exact D.v0 (by rw [← D.kind]; exact k)) (fun k => by
      obtain ⟨r, f, a1, a2⟩ := D.v1 (by rw [← D.kind]; exact k)
      exact ⟨r, by rw [D.val]; exact f, by omega, by omega⟩) D.s2
    rw [D.val, D.kind] at h2; exact ⟨_, _, _, hM, h2, hE⟩
theorem feas (m : Int) (p : List Rw) (hl : p.length ≤ 6) (hr : ∀ r ∈ p, r.cs.length < 4611686018427387904) :
    ∃ (b : Bool) (e : Int), Ok Tryz.prog 34 [intC m, rowsC p] (.fr (tupT [boolC b, intC e])) ∧ Ok Tryz.prog 35 [intC m, rowsC p] (.fr (tupT [boolC b, intC e])) := by
  obtain ⟨O1, O2, e, D⟩ := duo m p [] hl hr (by decide); have h2 := rFeasible_of m p O2 e D.s2; rw [D.kind] at h2; exact ⟨_, _, Feasible_of m p O1 e D.s1, h2⟩
attribute [local irreducible] OkB OkM OkN wpA
structure Rf where
  neg : Bool
  xs : List Int
  ys : List Int
def rf0 : Rf := ⟨false, [], []⟩
abbrev rfCs (f : Rf) : List CT := [boolC f.neg, intsC f.xs, intsC f.ys]
abbrev rfsC (x : List Rf) : CT := .fr (sliceT 3 (x.map rfCs))
theorem rfs_at {fs : List Rf} {j : Int} (h0 : 0 ≤ j) (h : j < (fs.length : Int)) : (fs.map rfCs)[j.toNat]? = some (rfCs (fs.getD j.toNat rf0)) := map_at rfCs rf0 h0 h
def okRf (f : Rf) : Bool := (decide (f.xs.length ≤ 6) && decide (f.ys.length ≤ 6)) && fvalidL f.neg f.xs f.ys
def smallB (rs : List Rw) (c : List Int) (x : List Rf) : Bool := (decide (rs.length ≤ 6) && decide (c.length ≤ 6) && decide (x.length ≤ 6)) && (rs.all (fun r => decide (r.cs.length ≤ 6)) && x.all okRf)
theorem gosmall34 : InGo Tryz.prog 12 := InGo.of Tryz.func12 (by kernel_rfl) (by kernel_rfl)
set_option maxHeartbeats 4000000 in
theorem small34_ok (rs : List Rw) (c : List Int) (x : List Rf) (hrl : rs.length ≤ 9223372036854775807) (hr : ∀ r ∈ rs, r.cs.length ≤ 9223372036854775807) (hcl : c.length ≤ 9223372036854775807) (hxl : x.length ≤ 9223372036854775807) (hx : ∀ f ∈ x, f.xs.length ≤ 9223372036854775807 ∧ f.ys.length ≤ 9223372036854775807) :
    Ok Tryz.prog 12 [rowsC rs, intsC c, rfsC x] (boolC (smallB rs c x)) := by
  have e0 : smallB rs c x = ((decide (rs.length ≤ 6) && decide (c.length ≤ 6) && decide (x.length ≤ 6)) && (rs.all (fun r => decide (r.cs.length ≤ 6)) && x.all okRf)) := rfl
  refine Ok.enter Tryz.func12 J _ Tryz.ntmps12 J ?_
  intro S w; refine Qy (Qx fun K hK => ?_); refine Qv J J J (Qj (hK _ _ (Qz (Qy (Qy ?_))))); clear hK K; refine Qx (fun K hK => ?_); refine Qq J J J (Q7 J J sRows.und (List.length_map ..) J (Qw igtr J J J J (Qq J J J (Qp 14 J (fun h => ?_) (fun h => ?_)))))
  · refine Qk J J J (Qk J J J (Qk J J J (Qc J J J J (Qq J J J (Qk J J J (Qk J J J (Qk J J J (Qc J J J J (Qj (hK _ _ (Qz (XU J (Qy ?_))))))))))))); clear hK K; refine Qx (fun K hK => ?_); refine Qv J J J (Qj (hK _ _ (Qz (Q2 (QW ?_))))); clear hK K; refine Q1 [_] rfl (QZ J QX) (by rw [e0, decide_eq_false (show ¬ rs.length ≤ 6 by omega)]; rfl) J
  refine Qq J J J (Q7 J J sInts.und (List.length_map ..) J (Qw igtr J J J J (Q6 J J J J (Qq J J J (Qp 19 J (fun h2 => ?_) (fun h2 => ?_))))))
  · refine Qk J J J (Qk J J J (Qk J J J (Qc J J J J (Qj (hK _ _ (Qz (XU J (Qy ?_)))))))); clear hK K; refine Qx (fun K hK => ?_); refine Qv J J J (Qj (hK _ _ (Qz (Q2 (QW ?_))))); clear hK K; refine Q1 [_] rfl (QZ J QX) (by rw [e0, decide_eq_false (show ¬ c.length ≤ 6 by omega), Bool.and_false]; rfl) J
  refine Qq J J J (Q7 J J sFracs.und (List.length_map ..) J (Qw igtr J J J J (Q6 J J J J (Qj (hK _ _ (Qz ?_)))))); clear hK K; refine QK J (fun h3 => ?_) (fun h3 => ?_)
  · refine Qy (Qx fun K hK => ?_); refine Qv J J J (Qj (hK _ _ (Qz (Q2 (QW ?_))))); clear hK K; refine Q1 [_] rfl (QZ J QX) (by rw [e0, decide_eq_false (show ¬ x.length ≤ 6 by omega), Bool.and_false]; rfl) J
  have e1 : smallB rs c x = (rs.all (fun r => decide (r.cs.length ≤ 6)) && x.all okRf) := by rw [e0, decide_eq_true (show rs.length ≤ 6 by omega), decide_eq_true (show c.length ≤ 6 by omega), decide_eq_true (show x.length ≤ 6 by omega)]; rfl
  refine QU (Qz (Qy (Qy (Qx fun K hK => ?_)))); refine Qq J J J (Q7 J J sRows.und (List.length_map ..) J (Qq J J J (Qj (hK _ _ (Qz (Q0 ?_)))))); clear hK K
  refine Xq (α := Nat) (fun i => i ≤ rs.length ∧ ∀ j, j < i → (rs.getD j rw0).cs.length ≤ 6)
    (fun i => [(2, .ct (rfsC x)), (24, .ct (rowsC rs)), (25, .ct (intC rs.length)), (26, .ct (intC i))]) (fun _ => []) (fun i => rs.length - i) 0 ⟨Nat.zero_le _, fun j h => absurd h (Nat.not_lt_zero j)⟩ (by exact Qu J ⟨rfl, rfl, rfl, rfl, trivial⟩) ?_
  intro i ⟨hi, hv⟩
  (try dsimp only at hi hv ⊢)
  refine Qy (Qx fun K hK => ?_); refine Qw ilss J J J J (Qj (hK _ _ (Qz (Qy ?_)))); clear hK K; refine QK J (fun h4 => ?_) (fun h4 => ?_)
  · have e2 : (i : Int).toNat = i := Int.toNat_natCast i
    have hlt : i < rs.length := by omega
    have hri := hr _ (X1 (z := rw0) hlt); refine QU (Qz (Qy (Q0 (Qy (Qx fun K hK => ?_)))))
    refine Qh J J J sRows (by omega) (Zf (by omega) (by omega)) J ?_
    refine Xd (n := 2) J J J lRow J J (Qf 0 J J zvRow J J J (Qa 2 J J J J J szRow J J (Qj (hK _ _ (Qz (Qy ?_)))))); clear hK K; refine Qx (fun K hK => ?_); refine QV J J J fR0 J (QJ J J J J J lInts J (Q7 J J sInts.und (List.length_map ..) J (Qw igtr J J J J (Qj (hK _ _ (Qz ?_)))))); clear hK K; rw [e2]; skip; refine QK J (fun h5 => ?_) (fun h5 => ?_)
    · refine Qy (Qx fun K hK => ?_); refine Qv J J J (Qj (hK _ _ (Qz (Q2 (Qe (QW (QW (Qe (QW ?_))))))))); clear hK K
      refine Q1 [_] rfl (QZ J QX) (by
        rw [e1, show rs.all (fun r => decide (r.cs.length ≤ 6)) = false from List.all_eq_false.mpr ⟨_, X1 (z := rw0) hlt, by rw [decide_eq_true_eq]; omega⟩]; rfl) J
    · refine QU (Qz (Qx fun K hK => ?_))
      refine Qw (iadd (by omega) (by omega)) J J J J ?_
      refine Qq J J J (Qj (hK _ _ (Q4 ?_))); clear hK K; refine Xb 0 (Qb (i + 1) (by omega) ⟨by omega, ?_⟩ (by exact Qu J ⟨rfl, rfl, rfl, by simp only [Int.natCast_add]; rfl, trivial⟩)); intro j hj; rcases Nat.lt_or_ge j i with h7 | h7
      · exact hv j h7
      · rw [show j = i by omega]; omega
  have hall : rs.all (fun r => decide (r.cs.length ≤ 6)) = true := by
    rw [List.all_eq_true]; intro r hr; obtain ⟨j, hj, rfl⟩ := List.getElem_of_mem hr; have := hv j (by omega); rw [List.getD_eq_getElem?_getD, List.getElem?_eq_getElem hj] at this
    simpa using this
  rw [hall, Bool.true_and] at e1; refine Qr (Qz (Qy (Qy (Qx fun K hK => ?_)))); refine Qq J J J (Q7 J J sFracs.und (List.length_map ..) J (Qq J J J (Qj (hK _ _ (Qz (Q0 ?_)))))); clear hK K
  refine Xq (α := Nat) (fun i => i ≤ x.length ∧ ∀ j, j < i → okRf (x.getD j rf0) = true)
    (fun i => [(35, .ct (rfsC x)), (36, .ct (intC x.length)), (37, .ct (intC i))]) (fun _ => []) (fun i => x.length - i) 0 ⟨Nat.zero_le _, fun j h => absurd h (Nat.not_lt_zero j)⟩ (by exact Qu J ⟨rfl, rfl, rfl, trivial⟩) ?_
  intro k ⟨hk, hw⟩
  (try dsimp only at hk hw ⊢)
  refine Qy (Qx fun K hK => ?_); refine Qw ilss J J J J (Qj (hK _ _ (Qz (Qy ?_)))); clear hK K; refine QK J (fun h4 => ?_) (fun h4 => ?_)
  · have e2 : (k : Int).toNat = k := Int.toNat_natCast k
    have hlt : k < x.length := by omega
    have hmem := X1 (z := rf0) hlt; obtain ⟨x1, x2⟩ := hx _ hmem
    have bad : okRf (x.getD k rf0) = false → smallB rs c x = false := fun hb => by
      rw [e1]; exact List.all_eq_false.mpr ⟨_, hmem, by rw [hb]; decide⟩
    have good : okRf (x.getD k rf0) = true → ∀ j, j < k + 1 → okRf (x.getD j rf0) = true := fun hb j hj => by
      rcases Nat.lt_or_ge j k with h7 | h7
      · exact hw j h7
      · rw [show j = k by omega]; exact hb
    refine QU (Qz (Qy (Q0 (Qy (Qx fun K hK => ?_)))))
    refine Qh J J J sFracs (by omega) (rfs_at (by omega) (by omega)) J ?_
    rw [e2]; generalize x.getD k rf0 = f at x1 x2 bad good; have bd : okRf f = ((decide (f.xs.length ≤ 6) && decide (f.ys.length ≤ 6)) && fvalidL f.neg f.xs f.ys) := rfl; refine Xd (n := 3) J J J Xy J J (Qf 0 J J zvFrac J J J (Qa 3 J J J J J szFrac J J (Qj (hK _ _ (Qz (Qy ?_)))))); clear hK K; refine Qx (fun K hK => ?_); refine QV J J J fF1 J (QJ J J J J J lNat J (Q7 J J sNat.und (List.length_map ..) J (Qw igtr J J J J (Qq J J J (Qp 45 J (fun h5 => ?_) (fun h5 => ?_))))))
    · refine Qk J J J (Qk J J J (Qk J J J (Qk J J J (Qc J J J J (Qq J J J (Qk J J J (Qk J J J (Qk J J J (Qc J J J J (Qj (hK _ _ (Qz (XU J (Qy ?_)))))))))))))); clear hK K; refine Qx (fun K hK => ?_); refine Qv J J J (Qj (hK _ _ (Qz (Q2 (Qe (QW (QW (Qe (QW ?_))))))))); clear hK K; refine Q1 [_] rfl (QZ J QX) (by rw [bad (by rw [bd, decide_eq_false (show ¬ f.xs.length ≤ 6 by omega)]; rfl)]; rfl) J
    refine QV J J J fF2 J (QJ J J J J J lNat J (Q7 J J sNat.und (List.length_map ..) J (Qw igtr J J J J (Q6 J J J J (Qq J J J (Qp 51 J (fun h6 => ?_) (fun h6 => ?_)))))))
    · refine Qk J J J (Qk J J J (Qk J J J (Qc J J J J (Qj (hK _ _ (Qz (XU J (Qy ?_)))))))); clear hK K; refine Qx (fun K hK => ?_); refine Qv J J J (Qj (hK _ _ (Qz (Q2 (Qe (QW (QW (Qe (QW ?_))))))))); clear hK K; refine Q1 [_] rfl (QZ J QX) (by rw [bad (by rw [bd, decide_eq_false (show ¬ f.ys.length ≤ 6 by omega), Bool.and_false]; rfl)]; rfl) J
    have hV := rFValid_list f.neg f.xs f.ys (by omega) (by omega); rw [decide_eq_true (show f.xs.length ≤ 6 by omega), decide_eq_true (show f.ys.length ≤ 6 by omega), Bool.and_self, Bool.true_and] at bd; rw [← bd] at hV
    refine Qt (n := 3) J J J J J Xy J ?_
    cases hg : okRf f with
    | false =>
      rw [hg] at hV; refine QQ gorFValid hV J J J J (Xj J J J (Q6 J J J J (Qj (hK _ _ (Qz (XU J (Qy ?_))))))); clear hK K; refine Qx (fun K hK => ?_); refine Qv J J J (Qj (hK _ _ (Qz (Q2 (Qe (QW (QW (Qe (QW ?_))))))))); clear hK K; refine Q1 [_] rfl (QZ J QX) (by rw [bad hg]; rfl) J
    | true =>
      rw [hg] at hV; refine QQ gorFValid hV J J J J (Xj J J J (Q6 J J J J (Qj (hK _ _ (Qz (XY J (QU (Qz ?_)))))))); clear hK K; refine Qx (fun K hK => ?_)
      refine Qw (iadd (by omega) (by omega)) J J J J ?_
      refine Qq J J J (Qj (hK _ _ (Q4 ?_))); clear hK K; refine Xb 0 (Qb (k + 1) (by omega) ⟨by omega, good hg⟩ (by exact Qu J ⟨rfl, rfl, by simp only [Int.natCast_add]; rfl, trivial⟩))
  · refine Qr (Qz (Qy (Qx fun K hK => ?_))); refine Qv J J J (Qj (hK _ _ (Qz (Q2 ?_)))); clear hK K
    refine Q1 [_] rfl (QZ J QX) (by
      rw [e1, show x.all okRf = true from List.all_eq_true.mpr fun f hf => by
        obtain ⟨j, hj, rfl⟩ := List.getElem_of_mem hf; have := hw j (by omega); rw [List.getD_eq_getElem?_getD, List.getElem?_eq_getElem hj] at this
        simpa using this]; rfl) J
def LpInH (q : Lp × Value) : Prop := LpIn q.1 ∧ q.2.oneCell' = true
set_option maxHeartbeats 4000000 in
theorem Program_own (bs : List Int) (p : Nat) (hb : Bytes bs) :
    OkM Tryz.prog 14 [.own 0] [(0, .box 82 (codes bs p))] [0] LpInH (fun q => .ct (.fr (tupT [intC q.1.n, .ex q.2, intsC q.1.c]))) (fun q => [(9, .rowx q.2 57 2 (rws q.1.rs)), (0, .box 82 (codes bs q.1.p))]) := by
  refine OkM.enter Tryz.func14 J _ Tryz.ntmps14 J (fun i hi => by obtain rfl := List.mem_singleton.1 hi; rfl) ?_
  intro S w g hbor; refine Qy (Qx fun K hK => ?_); refine Qv J J J (Qv J J J (Qv J J J (Qj (hK _ _ (Qz (Qy ?_)))))); clear hK K; refine Qx (fun K hK => ?_); refine Qq J J J (ZJ goNext (Next_ok bs p 5 (by decide) (by decide) hb) J J J J J (fun q hq => ?_)); obtain ⟨n, p1⟩ := q; dsimp only at hq ⊢; refine Qv J J J (Qj (hK _ _ (Qz (Qy ?_)))); clear hK K; refine Qx (fun K hK => ?_); refine Qv J J J (Qj (hK _ _ (Qz (Qy (Qy ?_))))); clear hK K; refine Qx (fun K hK => ?_); refine Qq J J J (ZJ goNext (Next_ok bs p1 7 (by decide) (by decide) hb) J J J J J (fun q hq1 => ?_)); obtain ⟨k0, p2⟩ := q; dsimp only at hq1 ⊢; refine Qv J J J (Qj (hK _ _ (Qz (Q0 ?_)))); clear hK K
  refine Yv 6 9 57 2 J J J ?_
  refine Xq (α := Int × List Rw × Nat) (fun x => 0 ≤ x.1 ∧ x.2.1.length + x.1 ≤ 6 ∧ ∀ r ∈ x.2.1, RowIn n r)
    (fun x => [(0, .own 0), (5, .ct (intC n)), (6, .own 9), (7, .ct (intC x.1))]) (fun x => [(9, .row 57 2 (rws x.2.1)), (0, .box 82 (codes bs x.2.2))]) (fun x => x.1.toNat) (k0, [], p2) ⟨by omega, by simp; omega, by simp⟩ (by exact Qu J ⟨rfl, rfl, rfl, rfl, trivial⟩) ?_
  rintro ⟨k, rs, p3⟩ ⟨hk0, hkl, hrs⟩
  dsimp only at hk0 hkl hrs ⊢; refine Qy (Qy (Qx fun K hK => ?_)); refine Qq J J J (Qw igtr J J J J (Qj (hK _ _ (Qz ?_)))); clear hK K; refine QK J (fun hk => ?_) (fun hk => ?_)
  · refine QU (Qz (Qy (Q0 (Qy (Qx fun K hK => ?_))))); refine Qq J J J (ZJ goNext (Next_ok bs p3 30 (by decide) (by decide) hb) J J J J J (fun q hq2 => ?_)); obtain ⟨b0, p4⟩ := q; dsimp only at hq2 ⊢
    refine Qw (isub (by omega) (by omega)) J J J J ?_
    refine Xk J bRow J (.one J J J J .nil) J (Qf 1 J J zvRow J J J (Qa 2 J J J J J szRow J J (Qj (hK _ _ (Qz (Qy (Qy ?_))))))); clear hK K; refine Qx (fun K hK => ?_); refine Qq J J J (Qq J J J (Qw (iadd (by omega) (by omega)) J J J J ?_)); refine ZJ goNext (Next_ok bs p4 (n + 1) (by omega) (by omega) hb) J J J J J (fun q hq3 => ?_); obtain ⟨i0, p5⟩ := q; dsimp only at hq3 ⊢; refine Qv J J J (Qj (hK _ _ (Qz (Q0 ?_)))); clear hK K
    refine St.nilX 3 3 1 J J ?_
    refine Xq (α := Int × List Int × Value × Nat) (fun x => 0 ≤ x.1 ∧ x.2.1.length + x.1 ≤ n ∧ (∀ c ∈ x.2.1, -3 ≤ c ∧ c ≤ 5) ∧ x.2.2.1.oneCell' = true)
      (fun x => [(0, .own 0), (5, .ct (intC n)), (6, .own 9), (7, .ct (intC k)), (8, .own 1), (9, .ct (intC x.1))])
      (fun x => [(3, .rowx x.2.2.1 3 1 (ints x.2.1)), (1, .box 57 [.ex x.2.2.1, intC (b0 - 8)]), (9, .row 57 2 (rws rs)), (0, .box 82 (codes bs x.2.2.2))]) (fun x => x.1.toNat) (i0, [], .slice none 0 0, p5) ⟨by omega, by simp; omega, by simp, rfl⟩ (by exact Qu J ⟨rfl, rfl, rfl, rfl, rfl, rfl, trivial⟩) ?_
    · rintro ⟨i, cs, v, p6⟩ ⟨hi0, hil, hcs, hv⟩
      dsimp only at hi0 hil hcs hv ⊢; refine Qy (Qy (Qx fun K hK => ?_)); refine Qq J J J (Qw igtr J J J J (Qj (hK _ _ (Qz ?_)))); clear hK K; refine QK J (fun hi => ?_) (fun hi => ?_)
      · refine QU (Qz (Qy (Q0 ?_))); refine St.drawA mixed (.p 0 (.p 2 (.fk 1 (.lin (.a 3 (.p 4 (.a 5 (.a 6 (.p 7 (.a 8 .done))))))) 3 (.p 4 (.fk 1 (.lin (.a 5 (.a 6 (.p 7 (.a 8 .done))))) 5 (.lin (.a 1 (.a 6 (.p 7 (.a 8 .done)))))))))) (by kernel_rfl) (fun K hK => ?_); refine Fin.p (QV J J J fR0 J (Qj (Fin.p ?_))); refine Qq J J J (Qj (Fin.fk ?_ ?_))
        · refine QJ J J J J J lInts J (Qj (Fin.lin ?_)); refine ZJ goNext (Next_ok bs p6 9 (by decide) (by decide) hb) J J J J J (fun q hq4 => ?_); obtain ⟨c, p7⟩ := q; dsimp only at hq4 ⊢
          refine Qw (isub (by omega) (by omega)) J J J J ?_
          refine XQ J J sInts J J J ?_
          skip; refine XJ 33 3 J J (Qi cs.length (ints (cs ++ [c - 3])) J J J J sInts (by simp [ints]) J (by omega) (by omega) (by simp [ints]) J ?_); refine QV J J J fR0 J (Ops.name 38 3 J J (fun v' hv' => ?_))
          refine Qn (c := .ex v') J J J J hv' zIntsD (by simp [Ent.cs]) ?_
          refine Qj (hK _ _ (Qz ?_)); clear hK K; refine Qx (fun K hK => ?_); refine Qq J J J (Qw (isub (by omega) (by omega)) J J J J ?_); refine Qv J J J (Qj (hK _ _ (Q4 ?_))); clear hK K; refine Qb (i - 1, cs ++ [c - 3], v', p7) (by dsimp only; omega) ⟨by dsimp only; omega, by simp; omega, mem_snoc hcs (by omega), hv'⟩ (by exact Qu J ⟨rfl, rfl, rfl, rfl, rfl, rfl, trivial⟩)
        · refine ZJ goNext (Next_ok bs p6 9 (by decide) (by decide) hb) J J J J J (fun q hq4 => ?_); obtain ⟨c, p7⟩ := q; dsimp only at hq4 ⊢; skip; refine Qj (Fin.p ?_)
          refine Qw (isub (by omega) (by omega)) J J J J ?_
          refine Qj (Fin.fk ?_ ?_)
          · refine QJ J J J J J lInts J (Qj (Fin.lin ?_))
            refine XQ J J sInts J J J ?_
            skip; refine XJ 33 3 J J (Qi cs.length (ints (cs ++ [c - 3])) J J J J sInts (by simp [ints]) J (by omega) (by omega) (by simp [ints]) J ?_); refine QV J J J fR0 J (Ops.name 38 3 J J (fun v' hv' => ?_))
            refine Qn (c := .ex v') J J J J hv' zIntsD (by simp [Ent.cs]) ?_
            refine Qj (hK _ _ (Qz ?_)); clear hK K; refine Qx (fun K hK => ?_); refine Qq J J J (Qw (isub (by omega) (by omega)) J J J J ?_); refine Qv J J J (Qj (hK _ _ (Q4 ?_))); clear hK K; refine Qb (i - 1, cs ++ [c - 3], v', p7) (by dsimp only; omega) ⟨by dsimp only; omega, by simp; omega, mem_snoc hcs (by omega), hv'⟩ (by exact Qu J ⟨rfl, rfl, rfl, rfl, rfl, rfl, trivial⟩)
          · refine XQ J J sInts J J J (Qj (Fin.lin ?_)); refine QJ J J J J J lInts J (XJ 33 3 J J (Qi cs.length (ints (cs ++ [c - 3])) J J J J sInts (by simp [ints]) J (by omega) (by omega) (by simp [ints]) J ?_)); refine QV J J J fR0 J (Ops.name 38 3 J J (fun v' hv' => ?_))
            refine Qn (c := .ex v') J J J J hv' zIntsD (by simp [Ent.cs]) ?_
            refine Qj (hK _ _ (Qz ?_)); clear hK K; refine Qx (fun K hK => ?_); refine Qq J J J (Qw (isub (by omega) (by omega)) J J J J ?_); refine Qv J J J (Qj (hK _ _ (Q4 ?_))); clear hK K; refine Qb (i - 1, cs ++ [c - 3], v', p7) (by dsimp only; omega) ⟨by dsimp only; omega, by simp; omega, mem_snoc hcs (by omega), hv'⟩ (by exact Qu J ⟨rfl, rfl, rfl, rfl, rfl, rfl, trivial⟩)
      · refine St.frzX 3 1 0 _ J J J (Xc _ _) (fun q hq => .inl (hbor q hq)) ?_
        refine Qr (Qz (Qy (Qy (Qx fun K hK => ?_)))); refine Qq J J J (ZJ goBool (Bool_ok bs p6 16 (by decide) (by decide) hb) J J J J J (fun q _ => ?_)); obtain ⟨b, p7⟩ := q; dsimp only; refine Qj (hK _ _ (Qz ?_)); clear hK K; refine Za J (fun _ => ?_) (fun _ => ?_)
        · refine Qx (fun K hK => ?_); refine Qq J J J (YJ (m := 2) (cs := [intC (-4503599627370496), intC 4503599627370496]) J J sInts (.one J J J J (.one J J J J .nil)) (by decide) J ?_); refine ZJ goPick (Pick_ok bs p7 [-4503599627370496, 4503599627370496] (by decide) (by decide) hb) J J J J J (fun q hq5 => ?_); obtain ⟨b1, p8⟩ := q
          have hb1 : b1 = -4503599627370496 ∨ b1 = 4503599627370496 := by simpa using hq5
          dsimp only; refine QV J J J fR1 J (Qn J J J J J zInt (by simp [Ent.cs]) ?_); refine Qj (hK _ _ (Qz ?_)); clear hK K; refine Qx (fun K hK => ?_); refine Qq J J J (Qt (n := 2) J J J J J lRow J (Ops.litN (n := 2) J J sRows J J (by decide) J ?_))
          refine Qi rs.length (rws (rs ++ [⟨cs, b1⟩])) J J J J sRows (rws_len rs) J (by omega) (by omega) (rws_snoc rs ⟨cs, b1⟩) J ?_
          refine Qv J J J (Qj (hK _ _ (Qz ?_))); clear hK K; refine Qx (fun K hK => ?_); refine Qq J J J (Qw (isub (by omega) (by omega)) J J J J ?_); refine Qv J J J (Qj (hK _ _ (Q4 ?_))); clear hK K; refine Xb 1 (Qb (k - 1, rs ++ [⟨cs, b1⟩], p8) (by dsimp only; omega) ⟨by dsimp only; omega, by simp; omega, mem_snoc hrs ⟨by dsimp only; omega, hcs, by dsimp only; omega, by dsimp only; omega⟩⟩ (by exact Qu J ⟨rfl, rfl, rfl, rfl, trivial⟩))
        · refine QU (Qz (Qx fun K hK => ?_)); refine Qq J J J (Qt (n := 2) J J J J J lRow J (Ops.litN (n := 2) J J sRows J J (by decide) J ?_))
          refine Qi rs.length (rws (rs ++ [⟨cs, b0 - 8⟩])) J J J J sRows (rws_len rs) J (by omega) (by omega) (rws_snoc rs ⟨cs, b0 - 8⟩) J ?_
          refine Qv J J J (Qj (hK _ _ (Qz ?_))); clear hK K; refine Qx (fun K hK => ?_); refine Qq J J J (Qw (isub (by omega) (by omega)) J J J J ?_); refine Qv J J J (Qj (hK _ _ (Q4 ?_))); clear hK K; refine Xb 1 (Qb (k - 1, rs ++ [⟨cs, b0 - 8⟩], p7) (by dsimp only; omega) ⟨by dsimp only; omega, by simp; omega, mem_snoc hrs ⟨by dsimp only; omega, hcs, by dsimp only; omega, by dsimp only; omega⟩⟩ (by exact Qu J ⟨rfl, rfl, rfl, rfl, trivial⟩))
  · refine Qr (Qz (Qy (Qx fun K hK => ?_))); refine Qv J J J (Qj (hK _ _ (Qz (Qy (Qy ?_))))); clear hK K; refine Qx (fun K hK => ?_); refine Qq J J J (Qq J J J (Qw (iadd (by omega) (by omega)) J J J J ?_)); refine ZJ goNext (Next_ok bs p3 (n + 1) (by omega) (by omega) hb) J J J J J (fun q hq3 => ?_); obtain ⟨i0, p5⟩ := q; dsimp only at hq3 ⊢; refine Qv J J J (Qj (hK _ _ (Qz (Q0 ?_)))); clear hK K
    refine Yv 10 2 3 1 J J J ?_
    refine Xq (α := Int × List Int × Nat) (fun x => 0 ≤ x.1 ∧ x.2.1.length + x.1 ≤ n ∧ (∀ c ∈ x.2.1, -2 ≤ c ∧ c ≤ 4))
      (fun x => [(0, .own 0), (5, .ct (intC n)), (6, .own 9), (10, .own 2), (11, .ct (intC x.1))])
      (fun x => [(2, .row 3 1 (ints x.2.1)), (9, .row 57 2 (rws rs)), (0, .box 82 (codes bs x.2.2))]) (fun x => x.1.toNat) (i0, [], p5) ⟨by omega, by simp; omega, by simp⟩ (by exact Qu J ⟨rfl, rfl, rfl, rfl, rfl, trivial⟩) ?_
    rintro ⟨i, cs, p6⟩ ⟨hi0, hil, hcs⟩
    dsimp only at hi0 hil hcs ⊢; refine Qy (Qy (Qx fun K hK => ?_)); refine Qq J J J (Qw igtr J J J J (Qj (hK _ _ (Qz ?_)))); clear hK K; refine QK J (fun hi => ?_) (fun hi => ?_)
    · refine QU (Qz (Qy (Q0 (Qx fun K hK => ?_)))); refine Qq J J J (Qq J J J (ZJ goNext (Next_ok bs p6 7 (by decide) (by decide) hb) J J J J J (fun q hq4 => ?_))); obtain ⟨c, p7⟩ := q; dsimp only at hq4 ⊢
      refine Qw (isub (by omega) (by omega)) J J J J ?_
      refine XQ J J sInts J J J (Qi cs.length (ints (cs ++ [c - 2])) J J J J sInts (by simp [ints]) J (by omega) (by omega) (by simp [ints]) J ?_); refine Qv J J J (Qj (hK _ _ (Qz ?_))); clear hK K; refine Qx (fun K hK => ?_); refine Qq J J J (Qw (isub (by omega) (by omega)) J J J J ?_); refine Qv J J J (Qj (hK _ _ (Q4 ?_))); clear hK K; refine Qb (i - 1, cs ++ [c - 2], p7) (by dsimp only; omega) ⟨by dsimp only; omega, by simp; omega, mem_snoc hcs (by omega)⟩ (by exact Qu J ⟨rfl, rfl, rfl, rfl, rfl, trivial⟩)
    · refine St.name 6 9 J J (fun v hv => ?_)
      refine St.frz 2 _ J (Xc _ _) (fun q hq => .inl (hbor q hq)) ?_
      refine Qr (Qz (Qy (Qx fun K hK => ?_))); refine Qq J J J (Qq J J J (Qq J J J (Qv J J J (Qv J J J (Qv J J J (Qj (hK _ _ (Qz (Q2 ?_))))))))); clear hK K; refine Y3 (⟨n, rs, cs, p6⟩, v) [_, _, _] rfl (QZ J (QZ J (QZ J QX))) J (fun _ => rfl) ⟨⟨hq.1, by show n ≤ 4; omega, by show rs.length ≤ 6; omega, hrs, by show (cs.length : Int) ≤ n; omega, hcs⟩, hv⟩
attribute [local irreducible] tf
theorem rw_len (r : Rw) : (rwCs r).length = 2 := rfl
def wider (r : Rw) (m : Int) : Rw := ⟨r.cs, min (r.b + m) 4503599627370496⟩
theorem sRowss : SlcT Tryz.prog 60 23 1 24 (.slice none 0 0) := SlcT.of Tryz.underlying60 (by kernel_rfl) rfl (by decide)
theorem sIntss4 : SlcT Tryz.prog 35 24 1 24 (.slice none 0 0) := SlcT.of Tryz.underlying35 (by kernel_rfl) rfl (by decide)
theorem lRows4 : Ld1 Tryz.prog 23 := Ld1.of _ Tryz.underlying23 rfl
set_option maxHeartbeats 16000000 in
theorem LinearSolves_t2 (B0 : List Int) (hB : Bytes B0) (p0 : Nat) (n : Int) (raw : List Rw) (goal : List Int) (k : Int) (rs : List Rw) (g : List Int) (od : List Rw)
    (hP : ∀ p ∈ [rs, od, raw], p.length ≤ 6 ∧ ∀ r ∈ p, r.cs.length < 4611686018427387904) (hQ : ∀ q ∈ [g, goal], q.length ≤ 1000 ∧ ∀ y ∈ q, -9223372036854775808 ≤ y ∧ y ≤ 9223372036854775807) (S : BSet) (w : World) :
    St { P := Tryz.prog, n := 268, S0 := S, w0 := w, bor := noBor } [(1, .ct (intC n)), (2, .ct (rowsC raw)), (3, .ct (intsC goal)), (9, .own 0), (10, .ct (intC k)), (11, .ct (rowsC rs)), (12, .ct (intsC g)), (13, .ct (rowsC od))]
      [(0, .box 82 (codes B0 p0))]
      (seqR (seqR (seqR (seqR (seqR (seqR (bodyOf Tryz.f6)))))))
      (bodyPost Tryz.prog Tryz.f6 (okPost { P := Tryz.prog, n := 268, S0 := S, w0 := w, bor := noBor } (boolC true))) := by
  refine Qy (Qy (Qx fun K hK => ?_)); refine Qq J J J (Qq J J J (Qq J J J (YJ (m := 3) (n := 1) (cs := [rowsC rs, rowsC od, rowsC raw]) J J sRowss (.one J J J J (.one J J J J (.one J J J J .nil))) (by decide) J ?_))); refine Q7 (m := 3) J J sRowss.und J J (Qq J J J (Qj (hK _ _ (Qz (Q0 ?_))))); clear hK K; generalize hPs : [rs, od, raw] = Ps at hP
  have hPl : Ps.length = 3 := by rw [← hPs]; rfl
  have hC : chunk 1 3 [rowsC rs, rowsC od, rowsC raw] = Ps.map fun p => [rowsC p] := by rw [← hPs]; rfl
  rw [hC]; clear hC hPs; generalize hQs : [g, goal] = Qs at hQ
  have hQl : Qs.length = 2 := by rw [← hQs]; rfl
  have hCQ : chunk 1 2 [intsC g, intsC goal] = Qs.map fun q => [intsC q] := by rw [← hQs]; rfl
  refine Xq (α := Nat × Nat) (fun x => x.1 ≤ 3)
    (fun x => [(1, .ct (intC n)), (3, .ct (intsC goal)), (9, .own 0), (10, .ct (intC k)), (12, .ct (intsC g)), (105, .ct (.fr (sliceT 1 (Ps.map fun p => [rowsC p])))), (106, .ct (intC 3)), (107, .ct (intC x.1))])
    (fun x => [(0, .box 82 (codes B0 x.2))]) (fun x => 3 - x.1) (0, p0) (Nat.zero_le _) (by exact Qu J ⟨rfl, rfl, rfl, rfl, rfl, rfl, rfl, rfl, trivial⟩) ?_
  rintro ⟨j, p1⟩ hj
  (try dsimp only at hj ⊢)
  refine Qy (Qx fun K hK => ?_); refine Qw ilss J J J J (Qj (hK _ _ (Qz (Qy ?_)))); clear hK K; refine QK J (fun h1 => ?_) (fun h1 => ?_)
  · have e2 : (j : Int).toNat = j := Int.toNat_natCast j
    have hlt : j < Ps.length := by omega
    obtain ⟨hl, hr⟩ := hP _ (X1 (z := []) hlt); refine QU (Qz (Qy (Q0 (Qy (Qx fun K hK => ?_)))))
    refine Qh J J J sRowss (by omega) (map_at (fun y => [rowsC y]) [] (by omega) (by omega)) J ?_
    rw [e2]; generalize Ps.getD j [] = p at hl hr; refine Xz J J J lRows4 J (Qv J J J (Qj (hK _ _ (Qz (Qy ?_))))); clear hK K; refine Qx (fun K hK => ?_); refine Qq J J J (Qq J J J (Qq J J J (YJ (m := 3) (n := 1) (cs := [intC (-1), intC 16, intC 17]) J J sInts (.one J J J J (.one J J J J (.one J J J J .nil))) (by decide) J ?_))); skip; refine ZJ goPick (Pick_ok B0 p1 [-1, 16, 17] (by decide) (by decide) hB) J J J J J (fun x hx => ?_); obtain ⟨m2, p2⟩ := x; dsimp only at hx ⊢
    refine YJ (m := 3) (n := 1) (cs := [intC k, intC n, intC m2]) J J sInts (.one J J J J (.one J J J J (.one J J J J .nil))) (by decide) J ?_
    refine Q7 (m := 3) J J sInts.und J J (Qq J J J (Qj (hK _ _ (Qz (Q0 ?_))))); clear hK K; generalize hMs : [k, n, m2] = Ms
    have hMl : Ms.length = 3 := by rw [← hMs]; rfl
    have hCM : chunk 1 3 [intC k, intC n, intC m2] = Ms.map fun x => [intC x] := by rw [← hMs]; rfl
    rw [hCM]; clear hCM hMs hx
    refine Xq (α := Nat) (fun i => i ≤ 3)
      (fun i => [(1, .ct (intC n)), (3, .ct (intsC goal)), (9, .own 0), (10, .ct (intC k)), (12, .ct (intsC g)), (105, .ct (.fr (sliceT 1 (Ps.map fun p => [rowsC p])))), (106, .ct (intC 3)), (107, .ct (intC j)), (16, .ct (rowsC p)), (116, .ct (intsC Ms)), (117, .ct (intC 3)), (118, .ct (intC i))])
      (fun _ => [(0, .box 82 (codes B0 p2))]) (fun i => 3 - i) 0 (Nat.zero_le _) (by exact Qu J ⟨rfl, rfl, rfl, rfl, rfl, rfl, rfl, rfl, rfl, rfl, rfl, rfl, trivial⟩) ?_
    intro i hi
    (try dsimp only at hi ⊢)
    refine Qy (Qx fun K hK => ?_); refine Qw ilss J J J J (Qj (hK _ _ (Qz (Qy ?_)))); clear hK K; refine QK J (fun h2 => ?_) (fun h2 => ?_)
    · have e3 : (i : Int).toNat = i := Int.toNat_natCast i; refine QU (Qz (Qy (Q0 (Qy (Qx fun K hK => ?_)))))
      refine Qh J J J sInts (by omega) (X3 (by omega) (by omega)) J ?_
      refine Xz J J J lInt J (Qv J J J (Qj (hK _ _ (Qz (Qy (Qy ?_)))))); clear hK K; refine Qx (fun K hK => ?_); refine Qq J J J (Qq J J J ?_); rw [e3]; generalize Ms.getD i 0 = m; skip
      refine YJ (m := 2) (n := 1) (cs := [intsC g, intsC goal]) J J sIntss4 (.one J J J J (.one J J J J .nil)) (by decide) J ?_
      refine Q7 (m := 2) J J sIntss4.und J J (Qq J J J (Qj (hK _ _ (Qz (Q0 ?_))))); clear hK K; rw [hCQ]
      refine Xq (α := Nat) (fun y => y ≤ 2)
        (fun y => [(1, .ct (intC n)), (3, .ct (intsC goal)), (9, .own 0), (10, .ct (intC k)), (12, .ct (intsC g)), (105, .ct (.fr (sliceT 1 (Ps.map fun p => [rowsC p])))), (106, .ct (intC 3)), (107, .ct (intC j)), (16, .ct (rowsC p)), (116, .ct (intsC Ms)), (117, .ct (intC 3)), (118, .ct (intC i)), (18, .ct (intC m)), (124, .ct (.fr (sliceT 1 (Qs.map fun q => [intsC q])))), (125, .ct (intC 2)), (126, .ct (intC y))])
        (fun _ => [(0, .box 82 (codes B0 p2))]) (fun y => 2 - y) 0 (Nat.zero_le _) (by exact Qu J ⟨rfl, rfl, rfl, rfl, rfl, rfl, rfl, rfl, rfl, rfl, rfl, rfl, rfl, rfl, rfl, rfl, trivial⟩) ?_
      intro y hy
      (try dsimp only at hy ⊢)
      refine Qy (Qx fun K hK => ?_); refine Qw ilss J J J J (Qj (hK _ _ (Qz (Qy ?_)))); clear hK K; refine QK J (fun h3 => ?_) (fun h3 => ?_)
      · have e4 : (y : Int).toNat = y := Int.toNat_natCast y
        have hlt2 : y < Qs.length := by omega
        obtain ⟨q1, q2⟩ := hQ _ (X1 (z := []) hlt2); refine QU (Qz (Qy (Q0 (Qy (Qx fun K hK => ?_)))))
        refine Qh J J J sIntss4 (by omega) (map_at (fun q => [intsC q]) [] (by omega) (by omega)) J ?_
        rw [e4]; generalize Qs.getD y [] = q at q1 q2
        refine Xz J J J lInts J ?_
        obtain ⟨O1, O2, e, D⟩ := duo m p q hl hr (by omega); obtain ⟨M1, M2⟩ := D.max; obtain ⟨vf, vb, ve, N1, N2, N3⟩ := mins m p q hl hr q1 q2; have hE := D.eq; have s1 := D.s1; have s2 := D.s2; have chk := D.chk; have dk := D.kind; have dv := D.val; clear D; have V1 := LValid_ok m p (by omega) hr; have V2 := Y5 m p (by omega) hr; generalize validR m p = vv at V1 V2; obtain ⟨k2, v2, pt2, ry2, du2⟩ := O2; dsimp only at dk dv; subst dk dv; refine Qv J J J (Qj (hK _ _ ?_)); clear hK K; refine Qz (Qy (Zw (α := Unit) (fun _ => True) (fun _ => [(1, .ct (intC n)), (3, .ct (intsC goal)), (9, .own 0), (10, .ct (intC k)), (12, .ct (intsC g)), (105, .ct (.fr (sliceT 1 (Ps.map fun p => [rowsC p])))), (106, .ct (intC 3)), (107, .ct (intC j)), (16, .ct (rowsC p)), (116, .ct (intsC Ms)), (117, .ct (intC 3)), (118, .ct (intC i)), (18, .ct (intC m)), (124, .ct (.fr (sliceT 1 (Qs.map fun q => [intsC q])))), (125, .ct (intC 2)), (126, .ct (intC y)), (20, .ct (intsC q)), (21, .own 1), (22, .ct (intC e))]) (fun _ => [(1, .box 46 (ocCs O1)), (0, .box 82 (codes B0 p2))]) (fun _ _ => ?_) (fun KK hN => ?_))); rotate_left
        · refine Qx (fun K hK => ?_); refine Qq J J J (Qq J J J (Qq J J J (QQ goSolve s1 J J J J (Qq J J J (QY J J J J (QY J J J J (Qf 1 J J zvOut J J J (Qa 7 J J J J J szOut J J (Qv J J J (Qj (hK _ _ ?_))))))))))); clear hK K; exact XV hN () trivial (by exact Qu J ⟨rfl, rfl, rfl, rfl, rfl, rfl, rfl, rfl, rfl, rfl, rfl, rfl, rfl, rfl, rfl, rfl, rfl, rfl, rfl, trivial⟩)
        refine Qy (Zw (α := Unit) (fun _ => True) (fun _ => [(1, .ct (intC n)), (3, .ct (intsC goal)), (9, .own 0), (10, .ct (intC k)), (12, .ct (intsC g)), (105, .ct (.fr (sliceT 1 (Ps.map fun p => [rowsC p])))), (106, .ct (intC 3)), (107, .ct (intC j)), (16, .ct (rowsC p)), (116, .ct (intsC Ms)), (117, .ct (intC 3)), (118, .ct (intC i)), (18, .ct (intC m)), (124, .ct (.fr (sliceT 1 (Qs.map fun q => [intsC q])))), (125, .ct (intC 2)), (126, .ct (intC y)), (20, .ct (intsC q)), (21, .own 1), (22, .ct (intC e)), (23, .own 2), (24, .ct (intC e))]) (fun _ => [(2, .box 46 (ocCs ⟨O1.kind, O1.value, pt2, ry2, du2⟩)), (1, .box 46 (ocCs O1)), (0, .box 82 (codes B0 p2))]) (fun _ _ => ?_) (fun KK hN => ?_)); rotate_left
        · refine Qx (fun K hK => ?_); refine Qq J J J (Qq J J J (Qq J J J (QQ gorSolve s2 J J J J (Qq J J J (QY J J J J (QY J J J J (Qf 2 J J zvOut J J J (Qa 7 J J J J J szOut J J (Qv J J J (Qj (hK _ _ ?_))))))))))); clear hK K; exact XV hN () trivial (by exact Qu J ⟨rfl, rfl, rfl, rfl, rfl, rfl, rfl, rfl, rfl, rfl, rfl, rfl, rfl, rfl, rfl, rfl, rfl, rfl, rfl, rfl, rfl, trivial⟩)
        clear s1 s2; refine Qy (Zw (α := Unit) (fun _ => True) (fun _ => [(1, .ct (intC n)), (3, .ct (intsC goal)), (9, .own 0), (10, .ct (intC k)), (12, .ct (intsC g)), (105, .ct (.fr (sliceT 1 (Ps.map fun p => [rowsC p])))), (106, .ct (intC 3)), (107, .ct (intC j)), (16, .ct (rowsC p)), (116, .ct (intsC Ms)), (117, .ct (intC 3)), (118, .ct (intC i)), (18, .ct (intC m)), (124, .ct (.fr (sliceT 1 (Qs.map fun q => [intsC q])))), (125, .ct (intC 2)), (126, .ct (intC y)), (20, .ct (intsC q))]) (fun _ => [(0, .box 82 (codes B0 p2))]) (fun _ _ => ?_) (fun KK hN => ?_)); rotate_left
        · refine Qy (Qx fun K hK => ?_); refine Qq J J J (Qq J J J (Qw ineq J J J J (Qq J J J (Qp 147 J (fun h => absurd J h) (fun _ => ?_))))); refine QV J J J fO0 J (QJ J J J J J lInt J (QV J J J fO0 J (QJ J J J J J lInt J (Qw ineq J J J J (Q6 J J J J (Qq J J J (Qp 154 J (fun h => absurd J h) (fun _ => ?_)))))))); refine QV J J J fO1 J (Zc (n := 3) J J J J (Nat.le_of_ble_eq_true J) Xy J (QV J J J fO1 J (Zc (n := 3) J J J J (Nat.le_of_ble_eq_true J) Xy J (QQ goEqual hE J J J J (Xj J J J (Q6 J J J J (Qq J J J (Qq J J J (Qw ieql J J J J (Qq J J J (Qp 165 J (fun h => ?_) (fun h => ?_))))))))))))
          · refine Qq J J J (Qq J J J (Qq J J J (Qt (n := 7) J J J J J lOut J (QQ gorCheck (chk h) J J J J (Xj J J J (Qc J J J J (Q6 J J J J (Qq J J J (Qq J J J (Qq J J J (QQ goLValid V1 J J J J (Qq J J J (Qq J J J (QQ gorLValid V2 J J J J (Ys J J J uBool J (Q6 J J J J (Qj (hK _ _ (Qz ?_))))))))))))))))))); clear hK K; refine QK J (fun h => absurd J h) (fun _ => ?_); refine QU (Xb 2 (Xb 1 ?_)); exact XV hN () trivial (by exact Qu J ⟨rfl, rfl, rfl, rfl, rfl, rfl, rfl, rfl, rfl, rfl, rfl, rfl, rfl, rfl, rfl, rfl, rfl, trivial⟩)
          · skip; refine Qk J J J (Qk J J J (Qk J J J (Qk J J J (Qk J J J (Qk J J J (Q6 J J J J (Q6 J J J J (Qq J J J (Qq J J J (Qq J J J (QQ goLValid V1 J J J J (Qq J J J (Qq J J J (QQ gorLValid V2 J J J J (Ys J J J uBool J (Q6 J J J J (Qj (hK _ _ (Qz ?_))))))))))))))))))); clear hK K; refine QK J (fun h => absurd J h) (fun _ => ?_); refine QU (Xb 2 (Xb 1 ?_)); exact XV hN () trivial (by exact Qu J ⟨rfl, rfl, rfl, rfl, rfl, rfl, rfl, rfl, rfl, rfl, rfl, rfl, rfl, rfl, rfl, rfl, rfl, trivial⟩)
        refine Qy (Zw (α := Unit) (fun _ => True) (fun _ => [(1, .ct (intC n)), (3, .ct (intsC goal)), (9, .own 0), (10, .ct (intC k)), (12, .ct (intsC g)), (105, .ct (.fr (sliceT 1 (Ps.map fun p => [rowsC p])))), (106, .ct (intC 3)), (107, .ct (intC j)), (16, .ct (rowsC p)), (116, .ct (intsC Ms)), (117, .ct (intC 3)), (118, .ct (intC i)), (18, .ct (intC m)), (124, .ct (.fr (sliceT 1 (Qs.map fun q => [intsC q])))), (125, .ct (intC 2)), (126, .ct (intC y)), (20, .ct (intsC q)), (25, .own 1), (26, .ct (boolC (decide (O1.kind = 1)))), (27, .ct (intC e))]) (fun _ => [(1, .box 38 (frCs O1.value)), (0, .box 82 (codes B0 p2))]) (fun _ _ => ?_) (fun KK hN => ?_)); rotate_left
        · refine Qx (fun K hK => ?_); refine Qq J J J (Qq J J J (Qq J J J (QQ goMaximum M1 J J J J (Qq J J J (QY J J J J (QY J J J J (QY J J J J (Qf 1 J J zvFrac J J J (Qa 3 J J J J J szFrac J J (Qv J J J (Qv J J J (Qj (hK _ _ ?_))))))))))))); clear hK K; exact XV hN () trivial (by exact Qu J ⟨rfl, rfl, rfl, rfl, rfl, rfl, rfl, rfl, rfl, rfl, rfl, rfl, rfl, rfl, rfl, rfl, rfl, rfl, rfl, rfl, trivial⟩)
        refine Qy (Zw (α := Unit) (fun _ => True) (fun _ => [(1, .ct (intC n)), (3, .ct (intsC goal)), (9, .own 0), (10, .ct (intC k)), (12, .ct (intsC g)), (105, .ct (.fr (sliceT 1 (Ps.map fun p => [rowsC p])))), (106, .ct (intC 3)), (107, .ct (intC j)), (16, .ct (rowsC p)), (116, .ct (intsC Ms)), (117, .ct (intC 3)), (118, .ct (intC i)), (18, .ct (intC m)), (124, .ct (.fr (sliceT 1 (Qs.map fun q => [intsC q])))), (125, .ct (intC 2)), (126, .ct (intC y)), (20, .ct (intsC q)), (25, .own 1), (26, .ct (boolC (decide (O1.kind = 1)))), (27, .ct (intC e)), (28, .own 2), (29, .ct (boolC (decide (O1.kind = 1)))), (30, .ct (intC e))]) (fun _ => [(2, .box 38 (frCs O1.value)), (1, .box 38 (frCs O1.value)), (0, .box 82 (codes B0 p2))]) (fun _ _ => ?_) (fun KK hN => ?_)); rotate_left
        · refine Qx (fun K hK => ?_); refine Qq J J J (Qq J J J (Qq J J J (QQ gorMaximum M2 J J J J (Qq J J J (QY J J J J (QY J J J J (QY J J J J (Qf 2 J J zvFrac J J J (Qa 3 J J J J J szFrac J J (Qv J J J (Qv J J J (Qj (hK _ _ ?_))))))))))))); clear hK K; exact XV hN () trivial (by exact Qu J ⟨rfl, rfl, rfl, rfl, rfl, rfl, rfl, rfl, rfl, rfl, rfl, rfl, rfl, rfl, rfl, rfl, rfl, rfl, rfl, rfl, rfl, rfl, rfl, trivial⟩)
        refine Qy (Zw (α := Unit) (fun _ => True) (fun _ => [(1, .ct (intC n)), (3, .ct (intsC goal)), (9, .own 0), (10, .ct (intC k)), (12, .ct (intsC g)), (105, .ct (.fr (sliceT 1 (Ps.map fun p => [rowsC p])))), (106, .ct (intC 3)), (107, .ct (intC j)), (16, .ct (rowsC p)), (116, .ct (intsC Ms)), (117, .ct (intC 3)), (118, .ct (intC i)), (18, .ct (intC m)), (124, .ct (.fr (sliceT 1 (Qs.map fun q => [intsC q])))), (125, .ct (intC 2)), (126, .ct (intC y)), (20, .ct (intsC q)), (25, .own 1), (26, .ct (boolC (decide (O1.kind = 1)))), (27, .ct (intC e)), (28, .own 2), (29, .ct (boolC (decide (O1.kind = 1)))), (30, .ct (intC e)), (31, .own 3), (32, .ct (boolC vb)), (33, .ct (intC ve))]) (fun _ => [(3, .box 38 (frCs vf)), (2, .box 38 (frCs O1.value)), (1, .box 38 (frCs O1.value)), (0, .box 82 (codes B0 p2))]) (fun _ _ => ?_) (fun KK hN => ?_)); rotate_left
        · refine Qx (fun K hK => ?_); refine Qq J J J (Qq J J J (Qq J J J (QQ goMinimum N1 J J J J (Qq J J J (QY J J J J (QY J J J J (QY J J J J (Qf 3 J J zvFrac J J J (Qa 3 J J J J J szFrac J J (Qv J J J (Qv J J J (Qj (hK _ _ ?_))))))))))))); clear hK K; exact XV hN () trivial (by exact Qu J ⟨rfl, rfl, rfl, rfl, rfl, rfl, rfl, rfl, rfl, rfl, rfl, rfl, rfl, rfl, rfl, rfl, rfl, rfl, rfl, rfl, rfl, rfl, rfl, rfl, rfl, rfl, trivial⟩)
        refine Qy (Zw (α := Unit) (fun _ => True) (fun _ => [(1, .ct (intC n)), (3, .ct (intsC goal)), (9, .own 0), (10, .ct (intC k)), (12, .ct (intsC g)), (105, .ct (.fr (sliceT 1 (Ps.map fun p => [rowsC p])))), (106, .ct (intC 3)), (107, .ct (intC j)), (16, .ct (rowsC p)), (116, .ct (intsC Ms)), (117, .ct (intC 3)), (118, .ct (intC i)), (18, .ct (intC m)), (124, .ct (.fr (sliceT 1 (Qs.map fun q => [intsC q])))), (125, .ct (intC 2)), (126, .ct (intC y)), (20, .ct (intsC q)), (25, .own 1), (26, .ct (boolC (decide (O1.kind = 1)))), (27, .ct (intC e)), (28, .own 2), (29, .ct (boolC (decide (O1.kind = 1)))), (30, .ct (intC e)), (31, .own 3), (32, .ct (boolC vb)), (33, .ct (intC ve)), (34, .own 4), (35, .ct (boolC vb)), (36, .ct (intC ve))]) (fun _ => [(4, .box 38 (frCs vf)), (3, .box 38 (frCs vf)), (2, .box 38 (frCs O1.value)), (1, .box 38 (frCs O1.value)), (0, .box 82 (codes B0 p2))]) (fun _ _ => ?_) (fun KK hN => ?_)); rotate_left
        · refine Qx (fun K hK => ?_); refine Qq J J J (Qq J J J (Qq J J J (QQ gorMinimum N2 J J J J (Qq J J J (QY J J J J (QY J J J J (QY J J J J (Qf 4 J J zvFrac J J J (Qa 3 J J J J J szFrac J J (Qv J J J (Qv J J J (Qj (hK _ _ ?_))))))))))))); clear hK K; exact XV hN () trivial (by exact Qu J ⟨rfl, rfl, rfl, rfl, rfl, rfl, rfl, rfl, rfl, rfl, rfl, rfl, rfl, rfl, rfl, rfl, rfl, rfl, rfl, rfl, rfl, rfl, rfl, rfl, rfl, rfl, rfl, rfl, rfl, trivial⟩)
        clear M1 M2 N1 N2 chk V1 V2; generalize decide (O1.kind = 1) = ob; refine Qy (Qx fun K hK => ?_); refine Qt (n := 3) J J J J J Xy J (Qt (n := 3) J J J J J Xy J (QQ goEqual hE J J J J (Xj J J J (Qq J J J (Qq J J J (Qq J J J (Ys J J J uBool J (Q6 J J J J (Qq J J J (Qp 224 J (fun h => absurd J h) (fun _ => ?_))))))))))); refine Qq J J J (Qq J J J (Qw ineq J J J J (Q6 J J J J (Qq J J J (Qp 229 J (fun h => absurd J h) (fun _ => ?_)))))); refine Qt (n := 3) J J J J J Xy J (Qt (n := 3) J J J J J Xy J (QQ goEqual N3 J J J J (Xj J J J (Q6 J J J J (Qq J J J (Qq J J J (Qq J J J (Ys J J J uBool J (Q6 J J J J (Qq J J J (Qp 240 J (fun h => absurd J h) (fun _ => ?_)))))))))))); refine Qq J J J (Qq J J J (Qw ineq J J J J (Q6 J J J J (Qj (hK _ _ (Qz ?_)))))); clear hK K; refine QK J (fun h => absurd J h) (fun _ => ?_); refine QU (Qz (Qx fun K hK => ?_))
        refine Qw (iadd (by omega) (by omega)) J J J J ?_
        refine Qq J J J (Qj (hK _ _ (Q4 ?_))); clear hK K; refine Xb 4 (Xb 3 (Xb 2 (Xb 1 ?_))); refine Qb (y + 1) (by omega) (by omega) (by exact Qu J ⟨rfl, rfl, rfl, rfl, rfl, rfl, rfl, rfl, rfl, rfl, rfl, rfl, rfl, rfl, rfl, by simp only [Int.natCast_add]; rfl, trivial⟩)
      · obtain ⟨fb, fe, hF1, hF2⟩ := feas m p hl hr; refine Qr (Qz (Qy (Qx fun K hK => ?_))); refine Qq J J J (Qq J J J (QQ goFeasible hF1 J J J J (Qq J J J (QY J J J J (QY J J J J (Qv J J J (Qv J J J (Qj (hK _ _ (Qz (Qy ?_))))))))))); clear hK K; refine Qx (fun K hK => ?_); refine Qq J J J (Qq J J J (QQ gorFeasible hF2 J J J J (Qq J J J (QY J J J J (QY J J J J (Qv J J J (Qv J J J (Qj (hK _ _ (Qz (Qy ?_))))))))))); clear hK K; refine Qx (fun K hK => ?_); refine Qq J J J (Qq J J J (Ys J J J uBool J (Qq J J J (Qp 261 J (fun h => absurd J h) (fun _ => ?_))))); refine Qq J J J (Qq J J J (Qw ineq J J J J (Q6 J J J J (Qj (hK _ _ (Qz ?_)))))); clear hK K; refine QK J (fun h => absurd J h) (fun _ => ?_); refine QU (Qz (Qx fun K hK => ?_))
        refine Qw (iadd (by omega) (by omega)) J J J J ?_
        refine Qq J J J (Qj (hK _ _ (Q4 ?_))); clear hK K; refine Qb (i + 1) (by omega) (by omega) (by exact Qu J ⟨rfl, rfl, rfl, rfl, rfl, rfl, rfl, rfl, rfl, rfl, rfl, by simp only [Int.natCast_add]; rfl, trivial⟩)
    · refine Qr (Qz (Qx fun K hK => ?_))
      refine Qw (iadd (by omega) (by omega)) J J J J ?_
      refine Qq J J J (Qj (hK _ _ (Q4 ?_))); clear hK K; refine Qb (j + 1, p2) (by dsimp only; omega) (by dsimp only; omega) (by exact Qu J ⟨rfl, rfl, rfl, rfl, rfl, rfl, rfl, by simp only [Int.natCast_add]; rfl, trivial⟩)
  · refine Qr (Qz (Qy (Qx fun K hK => ?_))); refine Qv J J J (Qj (hK _ _ (Qz (Q2 ?_)))); clear hK K; refine Q1 [_] rfl (QZ J QX) J J
set_option maxHeartbeats 16000000 in
theorem LinearSolves_ok (bs : List Int) (n : Int) (raw : List Rw) (goal : List Int) (hb : ∀ b ∈ bs, 0 ≤ b ∧ b < 256) (hrl : raw.length ≤ 9223372036854775807) (hr : ∀ r ∈ raw, r.cs.length ≤ 9223372036854775807) (hcl : goal.length ≤ 9223372036854775807) (hg : ∀ y ∈ goal, -9223372036854775808 ≤ y ∧ y ≤ 9223372036854775807) :
    Ok Tryz.prog 6 [bytesC bs, intC n, rowsC raw, intsC goal] (boolC true) := by
  have hSm0 := small34_ok raw goal [] hrl hr hcl (by decide) (fun f hf => nomatch hf); have hSm := hSm0.weak (As' := [rowsC raw, intsC goal, .ex (.slice none 0 0)]) ⟨Xp, Xp, Yd, trivial⟩; clear hSm0
  cases hsm : smallB raw goal [] with
  | false =>
    rw [hsm] at hSm
    refine Ok.enter Tryz.func6 J _ Tryz.ntmps6 J ?_
    intro S w; refine Qy (Qx fun K hK => ?_); refine Qv J J J (Qj (hK _ _ (Qz (Qy (Qy ?_))))); clear hK K; refine Qx (fun K hK => ?_); refine QQ goawake34 awake34_ok J J J J (Xj J J J (Qq J J J (Qq J J J (Qq J J J (QQ gosmall34 hSm J J J J (Xj J J J (Q6 J J J J (Qj (hK _ _ (Qz (XU J (Qy ?_)))))))))))); clear hK K; refine Qx (fun K hK => ?_); refine QQ goawake34 awake34_ok J J J J (Qv J J J (Qj (hK _ _ (Qz (Q2 (QW ?_)))))); clear hK K; refine Q1 [_] rfl (QZ J QX) J J
  | true =>
    rw [hsm] at hSm; unfold smallB at hsm; simp only [Bool.and_eq_true, decide_eq_true_eq, List.all_eq_true] at hsm; obtain ⟨⟨⟨s1, s2⟩, s3⟩, s4, s5⟩ := hsm
    have hrw : ∀ r ∈ raw, r.cs.length < 4611686018427387904 := fun r hm => by have := s4 r hm; omega
    clear s3 s4 s5 hr hrl hcl
    refine Ok.enter Tryz.func6 J _ Tryz.ntmps6 J ?_
    intro S w; have hB : Bytes (bs.take 400) := ⟨fun b h => (hb b (List.mem_of_mem_take h)).1, fun b h => (hb b (List.mem_of_mem_take h)).2, by simp; omega⟩; have hRoll := Roll_ok bs; generalize bs.take 400 = B0 at hB hRoll; refine Qy (Qx fun K hK => ?_); refine Qv J J J (Qj (hK _ _ (Qz (Qy (Qy ?_))))); clear hK K; refine Qx (fun K hK => ?_); refine QQ goawake34 awake34_ok J J J J (Xj J J J (Qq J J J (Qq J J J (Qq J J J (QQ gosmall34 hSm J J J J (Xj J J J (Q6 J J J J (Qj (hK _ _ (Qz (XY J (QU (Qz (Qy ?_)))))))))))))); clear hK K; refine Qx (fun K hK => ?_); refine Qq J J J (Ops.callN 0 goRoll hRoll J J J J J J (Qv J J J (Qj (hK _ _ (Qz (Qy ?_)))))); clear hK K; refine Qx (fun K hK => ?_); refine Qq J J J (Ops.callP [] goProgram (Program_own B0 0 hB) J J J J J J J J J (fun q hq => ?_)); obtain ⟨⟨N, rs, g, p1⟩, v⟩ := q; obtain ⟨⟨n0, n1, rl, hrs, cl, hc⟩, hv0⟩ := hq; dsimp only at n0 n1 rl hrs cl hc hv0 ⊢; refine Qq J J J (QY J J J J (QY J J J J (QY J J J J (Qv J J J (Qv J J J (XJ 11 9 J J (Y4 9 _ J (rws_frozen _ _) Xe (Qv J J J (Qj (hK _ _ ?_)))))))))); clear hK K hSm; refine Qz (Qy (Qx (fun K hK => ?_)))
    refine Qq J J J (Ops.appNil 3 J J J sRows (el_ones (fun _ => rfl) rs) (by rw [List.length_map]; omega) (by rw [List.length_map]; omega) J J J ?_); refine Qv J J J (Qj (hK _ _ ?_)); clear hK K
    refine Qz ?_
    have hrs' : ∀ r ∈ rs, r.cs.length ≤ 4 := fun r hr => by have := (hrs r hr).len; omega
    have hQ : ∀ q ∈ [g, goal], q.length ≤ 1000 ∧ ∀ y ∈ q, -9223372036854775808 ≤ y ∧ y ≤ 9223372036854775807 := by
      intro q hq; simp only [List.mem_cons, List.not_mem_nil, or_false] at hq; rcases hq with rfl | rfl
      · exact ⟨by omega, fun y hy => by have := hc y hy; omega⟩
      · exact ⟨by omega, hg⟩
    refine Qy ?_
    refine Zw (α := List Rw × Nat) (fun x => x.1.length ≤ 6 ∧ ∀ r ∈ x.1, r.cs.length ≤ 9) (fun _ => [(1, .ct (intC n)), (2, .ct (rowsC raw)), (3, .ct (intsC goal)), (9, .own 0), (10, .ct (intC N)), (11, .ct (rowsC rs)), (12, .ct (intsC g)), (13, .own 3)])
      (fun x => [(3, .row 57 2 (rws x.1)), (0, .box 82 (codes B0 x.2))]) (fun x hJ => ?_) (fun KK hN => ?_)
    rotate_left
    · refine Qy (Qx fun K hK => ?_); refine Qq J J J (Ops.lenR rs.length J J J (by decide) (rws_len rs) sRows.und J ?_); refine Qw igtr J J J J (Qj (hK _ _ (Qz ?_))); clear hK K; refine QK J (fun hpos => ?_) (fun hpos => ?_)
      · refine Qy (Qx fun K hK => ?_); refine Qq J J J (Qq J J J (Ops.lenR rs.length J J J (by decide) (rws_len rs) sRows.und J ?_)); refine ZJ goNext (Next_ok B0 p1 rs.length (by omega) (by omega) hB) J J J J J (fun q hq => ?_); obtain ⟨k, p2⟩ := q; dsimp only at hq ⊢; obtain ⟨i, rfl⟩ := Int.eq_ofNat_of_zero_le hq.1
        have hi : i < rs.length := by omega
        have e2 : (i : Int).toNat = i := Int.toNat_natCast i
        have hset : ∀ (r : Rw), r.cs.length ≤ 9 → (rs.set i r).length ≤ 6 ∧ ∀ y ∈ rs.set i r, y.cs.length ≤ 9 := fun r hr => ⟨by rw [List.length_set]; exact rl, fun y hy => by
          rcases List.mem_or_eq_of_mem_set hy with h | rfl
          · have := hrs' y h; omega
          · exact hr⟩
        have hri := hrs' _ (X1 (z := rw0) hi); have c0 : (rws rs)[i * 2 + 0]? = some (intsC (rs.getD i rw0).cs) := (el_cell (f := rwCs) rw_len rw0 hi (by decide)).trans J; refine Qv J J J (Qj (hK _ _ (Qz (Qy ?_)))); clear hK K; refine Qx (fun K hK => ?_); refine Qq J J J (ZJ goNext (Next_ok B0 p2 3 (by omega) (by omega) hB) J J J J J (fun q hq2 => ?_)); obtain ⟨sw, p3⟩ := q; dsimp only at hq2 ⊢; refine Qj (hK _ _ (Qz (Q0 (Qy ?_)))); clear hK K; refine Qx (fun K hK => ?_); refine Qw ieql J J J J (Qv J J J (Qj (hK _ _ (Qz ?_)))); clear hK K; refine QK J (fun h0 => ?_) (fun h0 => ?_)
        · refine Qx (fun K hK => ?_); refine Qq J J J (Qq J J J (Qq J J J (YJ (m := 3) (n := 1) (cs := [intC 4503599627370497, intC (-4503599627370497), intC 4503599627370496]) J J sInts (.one J J J J (.one J J J J (.one J J J J .nil))) (by decide) J ?_))); refine ZJ goPick (Pick_ok B0 p3 [4503599627370497, -4503599627370497, 4503599627370496] (by decide) (by decide) hB) J J J J J (fun x hx => ?_); obtain ⟨b2, p4⟩ := x; dsimp only at hx ⊢; skip
          refine Xu rs.length J J J (rws_len rs) J sRows (by omega) (by omega) J ?_
          rw [e2]; refine Yt J J fR1 J (stE1 (l := rs) (j := i) (o := 1) rwCs rw0 ⟨(rs.getD i rw0).cs, b2⟩ rw_len J J J J J hi (by decide) J zInt ?_); refine Qj (hK _ _ (X6 ?_)); clear hK K; exact XV hN (rs.set i ⟨(rs.getD i rw0).cs, b2⟩, p4) (hset ⟨(rs.getD i rw0).cs, b2⟩ (show (rs.getD i rw0).cs.length ≤ 9 by omega)) (by exact Qu J ⟨rfl, rfl, rfl, rfl, rfl, rfl, rfl, rfl, trivial⟩)
        · refine Qy (Qx fun K hK => ?_); refine Qw ieql J J J J (Qv J J J (Qj (hK _ _ (Qz ?_)))); clear hK K; refine QK J (fun h1 => ?_) (fun h1 => ?_)
          · refine Qx (fun K hK => ?_); refine Qq J J J (Qq J J J (Qq J J J (Qq J J J (Xu rs.length J J J (rws_len rs) J sRows (by omega) (by omega) J ?_)))); rw [e2]; refine Yt J J fR0 J (QJ J J J J c0 lInts J (Ops.appNil 4 J J J sInts (el_ones (fun _ => rfl) (rs.getD i rw0).cs) (by rw [List.length_map]; omega) (by rw [List.length_map]; omega) J J J ?_)); rw [ints_flat]
            refine YJ (m := 5) (n := 1) (cs := [intC 0, intC 0, intC 0, intC 0, intC 0]) J J sInts (.one J J J J (.one J J J J (.one J J J J (.one J J J J (.one J J J J .nil))))) (by decide) J ?_
            refine Ops.append (rs.getD i rw0).cs.length (ints ((rs.getD i rw0).cs ++ [0, 0, 0, 0, 0])) J J J J sInts (by simp [ints]) J (by show ((rs.getD i rw0).cs.length + 5) * 8 ≤ _; omega) (by show (rs.getD i rw0).cs.length + 5 ≤ _; omega) (by rw [Xo]; rfl) J ?_
            refine Y4 4 _ J (Xc _ _) Xe (Xu rs.length J J J (rws_len rs) J sRows (by omega) (by omega) J ?_); rw [e2]; refine Yt J J fR0 J (stE1 (l := rs) (j := i) (o := 0) rwCs rw0 ⟨(rs.getD i rw0).cs ++ [0, 0, 0, 0, 0], (rs.getD i rw0).b⟩ rw_len J J J J J hi (by decide) J zIntsD ?_); refine Qj (hK _ _ (X6 ?_)); clear hK K; exact XV hN (rs.set i ⟨(rs.getD i rw0).cs ++ [0, 0, 0, 0, 0], (rs.getD i rw0).b⟩, p3) (hset ⟨(rs.getD i rw0).cs ++ [0, 0, 0, 0, 0], (rs.getD i rw0).b⟩ (show ((rs.getD i rw0).cs ++ [0, 0, 0, 0, 0]).length ≤ 9 by rw [List.length_append]; show _ + 5 ≤ _; omega)) (by exact Qu J ⟨rfl, rfl, rfl, rfl, rfl, rfl, rfl, rfl, trivial⟩)
          · refine Qy (Qx fun K hK => ?_); refine Qw ieql J J J J (Qv J J J (Qj (hK _ _ (Qz ?_)))); clear hK K; refine QK J (fun h2 => ?_) (fun h2 => absurd h2 (by omega)); refine Qx (fun K hK => ?_); refine Qq J J J (Qq J J J (Qq J J J (YJ (m := 3) (n := 1) (cs := [intC 1048576, intC 1048577, intC (-1048576)]) J J sInts (.one J J J J (.one J J J J (.one J J J J .nil))) (by decide) J ?_))); refine ZJ goPick (Pick_ok B0 p3 [1048576, 1048577, -1048576] (by decide) (by decide) hB) J J J J J (fun x hx => ?_); obtain ⟨c2, p4⟩ := x; dsimp only at hx ⊢; refine XQ J J sInts J J J (Xu rs.length J J J (rws_len rs) J sRows (by omega) (by omega) J ?_); rw [e2]; refine Yt J J fR0 J (stE1 (l := rs) (j := i) (o := 0) rwCs rw0 ⟨[c2], (rs.getD i rw0).b⟩ rw_len J J J J J hi (by decide) J zIntsD ?_); refine Qj (hK _ _ (X6 ?_)); clear hK K; exact XV hN (rs.set i ⟨[c2], (rs.getD i rw0).b⟩, p4) (hset ⟨[c2], (rs.getD i rw0).b⟩ (show 1 ≤ 9 by decide)) (by exact Qu J ⟨rfl, rfl, rfl, rfl, rfl, rfl, rfl, rfl, trivial⟩)
      · refine QU ?_
        exact XV hN (rs, p1) ⟨rl, fun r hr => by have := hrs' r hr; omega⟩ (by exact Qu J ⟨rfl, rfl, rfl, rfl, rfl, rfl, rfl, rfl, trivial⟩)
    obtain ⟨od, p2⟩ := x; obtain ⟨j1, j2⟩ := hJ; dsimp only at j1 j2 ⊢; refine Xl 3 _ J (rws_frozen _ _) Xe (St.keep [(1, .ct (intC n)), (2, .ct (rowsC raw)), (3, .ct (intsC goal)), (9, .own 0), (10, .ct (intC N)), (11, .ct (rowsC rs)), (12, .ct (intsC g)), (13, .ct (rowsC od))] ⟨rfl, rfl, rfl, rfl, rfl, rfl, rfl, rfl, trivial⟩ ?_)
    exact LinearSolves_t2 B0 hB p2 n raw goal N rs g od (fun p hp => by
      simp only [List.mem_cons, List.not_mem_nil, or_false] at hp; rcases hp with rfl | rfl | rfl
      · exact ⟨rl, fun r hr => by have := hrs' r hr; omega⟩
      · exact ⟨j1, fun r hr => by have := j2 r hr; omega⟩
      · exact ⟨s1, hrw⟩) hQ S w
end Go.Proofs.YtdhmbgogmoaofaaGreat
namespace Go.Proofs.YtdhmbgogmoaofaaGreat
open Go.Own Go.Limbs
section
variable {H : Type} {enc : TypeId × Value → H} {P : Program} {w : World} {base : Nat} {spare : Nat → Bool} {held : Bool}
theorem slice_in {α : Type} {t e : TypeId} {n fuel : Nat} {cs0 : List Value} {x : DataW H × List MemPlace} (ht : P.underlying t = some (.slice e)) (hn : P.cellsOf e = n) (hn0 : 0 < n) (f : α → List CT) (hf : ∀ z, (f z).length = n) (good : α → Prop)
    (hE : ∀ m cs y, DataW.trod enc P w base spare held m e cs = some y → cs.length = n → ∃ z, cells (fun _ => True) w (f z) cs ∧ good z)
    (h : DataW.trod enc P w base spare held fuel t cs0 = some x) : ∃ (v : Value) (zs : List α), cs0 = [v] ∧ zs.length ≤ 9223372036854775807 ∧ (∀ z ∈ zs, good z) ∧ (CT.fr (sliceT n (zs.map f))).p (fun _ => True) w v := by
  rcases DataW.trod_slice ht h with ⟨h0, _⟩ | ⟨a, len, cap, elems, rest, m, _, rfl, rfl, _, hl, hm, hlen, hel, _⟩
  · exact ⟨_, [], h0, Nat.zero_le _, (fun z hz => nomatch hz), nil_is n _ w⟩
  rw [hn] at hel
  have key : ∀ k, k ≤ len → ∃ (zs : List α) (vs : List Value), zs.length = k ∧ (∀ z ∈ zs, good z) ∧ cells (fun _ => True) w (zs.map f).flatten vs ∧ vs.length = k * n ∧ ∀ i u, vs[i]? = some u → w.cell? (a.add i) = some u := by
    intro k
    induction k with
    | zero => intro _; exact ⟨[], [], rfl, (fun z hz => nomatch hz), trivial, (Nat.zero_mul n).symm, fun i u hu => by simp at hu⟩
    | succ k ih =>
      intro hk; obtain ⟨zs, vs, e1, e2, e3, e4, e5⟩ := ih (by omega); have h1 := hel k (by omega); rw [List.getElem?_eq_getElem (show k < elems.length by omega), Option.bind_eq_some_iff] at h1; obtain ⟨cs, h2, h3⟩ := h1; obtain ⟨_, h4, h5⟩ := World.cells?_some h2; obtain ⟨z, h6, h7⟩ := hE _ _ _ h3 h4; refine ⟨zs ++ [z], vs ++ cs, by simp [e1], ?_, ?_, by rw [List.length_append, e4, h4, Nat.succ_mul], ?_⟩
      · intro y hy; rcases List.mem_append.1 hy with hy | hy
        · exact e2 y hy
        · rw [List.mem_singleton.1 hy]; exact h7
      · rw [List.map_append, List.flatten_append]
        refine cells.append e3 ?_
        simpa using h6
      · intro i u hu; rcases Nat.lt_or_ge i (k * n) with hi | hi
        · rw [List.getElem?_append_left (by omega)] at hu; exact e5 i u hu
        · rw [List.getElem?_append_right (by omega), e4] at hu
          have hlt : i - k * n < n := by
            have := (List.getElem?_eq_some_iff.1 hu).1; omega
          have := h5 (i - k * n) hlt; rw [Addr.add_add, show k * n + (i - k * n) = i by omega] at this; rw [this, hu]
  obtain ⟨zs, vs, e1, e2, e3, e4, e5⟩ := key len (Nat.le_refl _)
  have hmx : maxLen = 9223372036854775807 := by decide
  refine ⟨_, zs, rfl, by omega, e2, some a, cap, by rw [List.length_map, e1], by rw [List.length_map, e1]; exact hl, hm, fun y hy => by obtain ⟨z, _, rfl⟩ := List.mem_map.1 hy; exact hf z, fun hne => ?_⟩
  have hpos : 0 < len := by
    rcases Nat.eq_zero_or_pos len with h0 | h0
    · rw [h0] at e1; rw [List.length_eq_zero_iff.1 e1] at hne; exact absurd J hne
    · exact h0
  have hvl : 0 < vs.length := by rw [e4]; exact Nat.mul_pos hpos hn0
  have h0 := e5 0 _ (List.getElem?_eq_getElem hvl); obtain ⟨b, o, sp⟩ := a
  have hsp : sp = none ∧ b < w.heap.size := by
    simp only [Addr.add, if_true, World.cell?] at h0
    cases e : w.heap[b]? with
    | none => rw [e] at h0; cases h0
    | some ob =>
      rw [e] at h0
      cases ob with
      | cells c t r =>
        refine ⟨?_, Jq e⟩
        cases sp with
        | none => rfl
        | some q => simp at h0
      | _ => cases h0
  obtain ⟨rfl, hb⟩ := hsp; refine ⟨b, o, rfl, trivial, hb, vs, e3, fun i u hu => ?_⟩; have h1 := e5 i u hu
  have h3 : (⟨b, o, none⟩ : Addr).add i = ⟨b, o + i, none⟩ := by
    unfold Addr.add; split
    · rename_i h; subst h; rfl
    · rfl
  rw [h3] at h1; exact h1
theorem ints_in {t e : TypeId} {fuel : Nat} {cs0 : List Value} {x : DataW H × List MemPlace} (ht : P.underlying t = some (.slice e)) (he : P.underlying e = some (.int .i64)) (hn : P.cellsOf e = 1)
    (h : DataW.trod enc P w base spare held fuel t cs0 = some x) : ∃ (v : Value) (zs : List Int), cs0 = [v] ∧ zs.length ≤ 9223372036854775807 ∧ (∀ z ∈ zs, -9223372036854775808 ≤ z ∧ z ≤ 9223372036854775807) ∧ (intsC zs).p (fun _ => True) w v := by
  refine slice_in ht hn (by decide) (fun z : Int => [intC z]) (fun _ => rfl) (fun z => -9223372036854775808 ≤ z ∧ z ≤ 9223372036854775807) (fun m cs y hy _ => ?_) h; obtain ⟨z, rfl, _, hw⟩ := DataW.trod_int he hy; exact ⟨z, ⟨rfl, trivial⟩, bounds_i64 hw⟩
theorem bytes_in {t e : TypeId} {fuel : Nat} {cs0 : List Value} {x : DataW H × List MemPlace} (ht : P.underlying t = some (.slice e)) (he : P.underlying e = some (.int .u8)) (hn : P.cellsOf e = 1)
    (h : DataW.trod enc P w base spare held fuel t cs0 = some x) : ∃ (v : Value) (zs : List Int), cs0 = [v] ∧ (∀ z ∈ zs, 0 ≤ z ∧ z < 256) ∧ (bytesC zs).p (fun _ => True) w v := by
  obtain ⟨v, zs, h1, _, h2, h3⟩ := slice_in ht hn (by decide) (fun z : Int => [CT.ex (Value.int .u8 z)]) (fun _ => rfl) (fun z => 0 ≤ z ∧ z < 256) (fun m cs y hy _ => by
    obtain ⟨z, rfl, _, hw⟩ := DataW.trod_int he hy
    exact ⟨z, ⟨rfl, trivial⟩, by have := bounds_u8 hw; omega⟩) h
  exact ⟨v, zs, h1, h2, h3⟩
end
theorem rows_in {H : Type} {enc : TypeId × Value → H} {w : World} {base : Nat} {spare : Nat → Bool} {held : Bool} {fuel : Nat} {cs0 : List Value} {x : DataW H × List MemPlace}
    (h : DataW.trod enc Tryz.prog w base spare held fuel 23 cs0 = some x) : ∃ (v : Value) (rs : List Rw), cs0 = [v] ∧ rs.length ≤ 9223372036854775807 ∧ (∀ r ∈ rs, r.cs.length ≤ 9223372036854775807) ∧ (rowsC rs).p (fun _ => True) w v := by
  refine slice_in Tryz.underlying23 (n := 2) (by kernel_rfl) (by decide) rwCs (fun _ => rfl) (fun r => r.cs.length ≤ 9223372036854775807) (fun m cs y hy hl => ?_) h; obtain ⟨xs, k, rfl, rfl, _, h2, h3⟩ := DataW.trod_struct Tryz.underlying57 hy; have f0 := h3 0 _ J; have f1 := h3 1 _ J; rw [List.getElem?_eq_getElem (show 0 < xs.length by rw [h2]; decide)] at f0; rw [List.getElem?_eq_getElem (show 1 < xs.length by rw [h2]; decide)] at f1
  obtain ⟨c0, c1, rfl⟩ : ∃ a b, cs = [a, b] := by
    rcases cs with _ | ⟨a, _ | ⟨b, _ | ⟨c, l⟩⟩⟩ <;> simp only [List.length_nil, List.length_cons] at hl
    · omega
    · omega
    · exact ⟨a, b, rfl⟩
    · omega
  rw [show Tryz.prog.cellsOf _ = 1 from by kernel_rfl] at f0 f1; obtain ⟨v, zs, e1, e2, _, e3⟩ := ints_in Tryz.underlying24 Tryz.underlying3 (by kernel_rfl) f0; obtain ⟨b, e4, _, _⟩ := DataW.trod_int Tryz.underlying3 f1
  injection e1 with e1 _
  injection e4 with e4 _
  have e1 : c0 = v := e1; have e4 : c1 = .int .i64 b := e4; subst e1 e4; exact ⟨⟨zs, b⟩, ⟨e3, rfl, trivial⟩, e2⟩
end Go.Proofs.YtdhmbgogmoaofaaGreat
namespace Go.Proofs.YtdhmbgogmoaofaaGreat.linearSolves
open Go.ChangeShapes Go.WideShapes Go.ChangeAt Go.RowKit
open Go.ChangeMaps (open_string shut_string)
set_option linter.unusedVariables false
theorem own : ownKnob Tryz.prog.godebug = none := by kernel_rfl
theorem laidOut : laidOutB Tryz.prog = true := by kernel_rfl
set_option maxRecDepth 100000 in
theorem lifted (os : Os) (started : os.Started) (H : Type) (enc : TypeId × Value → H) :
    ReturnsInHanded {} Tryz.checked os 6 .any (Rows.linearSolvesSpec.pre6 enc Tryz.prog Tryz.f6 Rows.linearSolvesRow.domain false) (Rows.linearSolvesSpec.post enc Tryz.prog Tryz.f6 false true false false) := by
  refine returnsInHanded_of_change (C := Tryz.checked) own started (by kernel_rfl) Tryz.func6
    (ChangeSpec.witness6 (enc := enc) (C := Tryz.checked) false ⟨#[], #[.slice none 0 0, .int .i64 0, .slice none 0 0, .slice none 0 0], []⟩ 8 (by kernel_rfl) (by kernel_rfl) (by kernel_rfl) (by kernel_rfl)) ?_
  intro W base args ds gs before hval0 hW hcnd _; have hval : ∀ (j : Nat) t v, Tryz.f6.params[j]? = some t → args[j]? = some v → Value.okWide Tryz.prog W .any base t v := hval0; have hW' := hW; obtain ⟨p, q, hA0, hV, rfl, hfz, hnd⟩ := hW; have hA : DataW.TrodAll enc Tryz.prog W 0 (fun _ => true) true Tryz.f6.params.toList args.toList ds p := hA0; rw [Tryz.params6] at hA hval; obtain ⟨v0, vs0, d0, ds0, p0, q0, hargs0, rfl, rfl, h0, r0⟩ := trodAll_cons hA; obtain ⟨v1, vs1, d1, ds1, p1, q1, hargs1, rfl, rfl, h1, r1⟩ := trodAll_cons r0; obtain ⟨v2, vs2, d2, ds2, p2, q2, hargs2, rfl, rfl, h2, r2⟩ := trodAll_cons r1; obtain ⟨v3, vs3, d3, ds3, p3, q3, hargs3, rfl, rfl, h3, r3⟩ := trodAll_cons r2; obtain ⟨rfl, rfl, rfl⟩ := trodAll_nil r3
  obtain rfl : args = #[v0, v1, v2, v3] := by cases args; simp_all
  obtain ⟨rfl, rfl⟩ := trodVars_none hV; obtain ⟨a0, len0, cap0, rfl⟩ := okWide_slice Tryz.underlying22 (hval 0 22 v0 rfl rfl); have k0 := h0
  have lt0 : ∀ x ∈ p0, x.block < W.heap.size := by obtain ⟨m, hm⟩ := k0; exact DataW.trod_lt m _ _ _ hm
  obtain ⟨f0, t0⟩ := h0; obtain ⟨u0, z0, e0, c0, w0⟩ := bytes_in Tryz.underlying22 Tryz.underlying5 (by kernel_rfl) t0
  have e0 : Value.slice a0 len0 cap0 = u0 := by simpa [Value.cells] using e0
  subst e0; obtain ⟨a1, rfl, rfl, rfl, w1⟩ := open_int Tryz.underlying3 (hval 1 3 v1 rfl rfl) h1; obtain ⟨a2, len2, cap2, rfl⟩ := okWide_slice Tryz.underlying23 (hval 2 23 v2 rfl rfl); have k2 := h2
  have lt2 : ∀ x ∈ p2, x.block < W.heap.size := by obtain ⟨m, hm⟩ := k2; exact DataW.trod_lt m _ _ _ hm
  obtain ⟨f2, t2⟩ := h2; obtain ⟨u2, z2, e2, b2, c2, w2⟩ := rows_in t2
  have e2 : Value.slice a2 len2 cap2 = u2 := by simpa [Value.cells] using e2
  subst e2; obtain ⟨a3, len3, cap3, rfl⟩ := okWide_slice Tryz.underlying24 (hval 3 24 v3 rfl rfl); have k3 := h3
  have lt3 : ∀ x ∈ p3, x.block < W.heap.size := by obtain ⟨m, hm⟩ := k3; exact DataW.trod_lt m _ _ _ hm
  obtain ⟨f3, t3⟩ := h3; obtain ⟨u3, z3, e3, b3, c3, w3⟩ := ints_in Tryz.underlying24 Tryz.underlying3 (by kernel_rfl) t3
  have e3 : Value.slice a3 len3 cap3 = u3 := by simpa [Value.cells] using e3
  subst e3; clear hA0 hval0
  refine (((LinearSolves_ok z0 a1 z2 z3 c0  b2 c2 b3 c3) (fun _ => True) W [.slice a0 len0 cap0, .int .i64 a1, .slice a2 len2 cap2, .slice a3 len3 cap3] (fun _ _ => trivial) ⟨w0, rfl, w2, w3, trivial⟩)).mono fun e W' ⟨v, he, hv, bel⟩ => ?_
  have hv : v = .bool true := hv; subst hv he; exact ⟨_, rfl, _, _, _, [], _, [], hW', trodAll_mk1 (shut_bool Tryz.underlying4 _), (trodAll_cons_mk (Below.trod laidOut (by kernel_rfl) (of_decide_eq_true (by kernel_rfl)) k0 bel lt0) (trodAll_cons_mk (shut_int Tryz.underlying3 w1) (trodAll_cons_mk (Below.trod laidOut (by kernel_rfl) (of_decide_eq_true (by kernel_rfl)) k2 bel lt2) (trodAll_cons_mk (Below.trod laidOut (by kernel_rfl) (of_decide_eq_true (by kernel_rfl)) k3 bel lt3) trodAll_mk0)))), rfl, bel.frame _, fun h => by cases h⟩
theorem over : Rows.linearSolvesRow.holds Tryz.pinned (OpenSpec.ofChange Rows.linearSolvesSpec) :=
  OpenClaim.holds_of_wide 6 Tryz.f6 rfl rfl rfl rfl rfl rfl rfl ⟨rfl, rfl, rfl, rfl, rfl⟩ rfl rfl rfl rfl rfl (by kernel_rfl) Tryz.func6 (by kernel_rfl)
    (of_decide_eq_true (by kernel_rfl)) (by unfold Func.isWrapper; first | (rw [if_pos (by decide +kernel)]; kernel_rfl) | (rw [if_neg (by decide +kernel)]; exact ⟨rfl, rfl⟩))
    (fun os started H enc _ => lifted os started H enc)
theorem proved : Rows.LinearSolvesSaid := over
#print axioms proved
end Go.Proofs.YtdhmbgogmoaofaaGreat.linearSolves
